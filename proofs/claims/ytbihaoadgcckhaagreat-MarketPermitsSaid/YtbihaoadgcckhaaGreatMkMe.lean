/- quadriviumref07.Made: what a round keeps. -/
import Derived.Test.YtbihaoadgcckhaaGreatMkMd
namespace Go.Proofs.YtbihaoadgcckhaaGreat
open Go Go.Proofs Go.RowKit Go.Maps Go.Sort Go.Lib

section
variable {W w w' w'' wr : World} {d n c B ob : Nat} {A : Option Addr} {v v' : Value} {L : List Off} {o : Off}
theorem own_type {w : World} {base k n b : Nat} {e t : TypeId} {v : Value} {xs : List Value} {cs : Array Value} {fz : Nat × Nat} (h : w.ownsRow base e k v n xs) (hb : w.heap[b]? = some (.cells cs t fz)) (ht : t ≠ e) : v.ownBlock ≠ some b := by
  rcases h.2 with ⟨rfl, _⟩ | ⟨g, cap, cur, rfl, _, hg, _⟩
  · simp [Value.ownBlock]
  · intro e'
    have e' : g = b := by simpa [Value.ownBlock] using e'
    subst e'
    rw [hg] at hb
    injection hb with hb
    injection hb with _ hb
    exact ht hb.symm
theorem own_own {w : World} {base base' k k' n n' : Nat} {e e' : TypeId} {v v' : Value} {xs xs' : List Value} (h : w.ownsRow base e k v n xs) (h' : w.ownsRow base' e' k' v' n' xs') (ht : e ≠ e') : v.ownBlock = none ∨ v.ownBlock ≠ v'.ownBlock := by
  rcases h'.2 with ⟨rfl, _⟩ | ⟨g, cap, cur, rfl, _, hg, _⟩
  · cases hq : v.ownBlock with
    | none => exact .inl rfl
    | some q => exact .inr (by simp [Value.ownBlock])
  · exact .inr (own_type h hg (Ne.symm ht))
/-- Who owns a block. -/
def Mine (v : Value) (L : List Off) (q : Nat) : Prop := v.ownBlock = some q ∨ ∃ o ∈ L, o.sv.ownBlock = some q ∨ o.nv.ownBlock = some q
structure MS (W : World) (d : Nat) (A : Option Addr) (n c : Nat) (v : Value) (L : List Off) (w : World) : Prop where
  keep : W.grownBy w (some d)
  draw : DrawS d A n c w
  rows : w.ownsRow W.heap.size 52 5 v L.length (flatE Off.cells L)
  ok : ∀ o ∈ L, w.ownsRow W.heap.size 3 1 o.sv o.slots.length (flatE encI o.slots) ∧ w.ownsRow W.heap.size 9 1 o.nv o.needs.length (flatE encT o.needs)
  dl : d < W.heap.size
theorem kept_if {w w' : World} {base k n : Nat} {e : TypeId} {v : Value} {xs : List Value} {row : Option Nat} (h : w.ownsRow base e k v n xs) (hg : w.grownBy w' row) (hm : ∀ q, row = some q → v.ownBlock ≠ some q) : w'.ownsRow base e k v n xs := by
  refine h.kept hg ?_
  cases hr : row with
  | none => cases hv : v.ownBlock <;> simp
  | some q => exact .inr (hm q hr)
theorem MS.mine (h : MS W d A n c v L w) {q : Nat} (hq : Mine v L q) : W.heap.size ≤ q ∧ q < w.heap.size := by
  rcases hq with hq | ⟨o, ho, hq | hq⟩
  · exact own_lo h.rows hq
  · exact own_lo (h.ok o ho).1 hq
  · exact own_lo (h.ok o ho).2 hq
theorem MS.kept (h : MS W d A n c v L w) {row : Option Nat} (hg : w.grownBy w' row) (hr : ∀ q, row = some q → q = d ∨ W.heap.size ≤ q) (hm : ∀ q, row = some q → ¬ Mine v L q) (hd : DrawS d A n c w') : MS W d A n c v L w' where
  keep := ⟨hg.os.trans h.keep.os, hg.tape.trans h.keep.tape, hg.output.trans h.keep.output, Nat.le_trans h.keep.size hg.size, fun i hi hne => (hg.block i (Nat.lt_of_lt_of_le hi h.keep.size) (fun e => by
    rcases hr i e.symm with e2 | e2
    · subst e2; exact hne rfl
    · omega)).trans (h.keep.block i hi hne)⟩
  draw := hd
  rows := kept_if h.rows hg fun q hq e => hm q hq (.inl e)
  ok o ho := ⟨kept_if (h.ok o ho).1 hg fun q hq e => hm q hq (.inr ⟨o, ho, .inl e⟩), kept_if (h.ok o ho).2 hg fun q hq e => hm q hq (.inr ⟨o, ho, .inr e⟩)⟩
  dl := h.dl
theorem MS.below (h : MS W d A n c v L w) (hb : RowKit.Below w.heap.size w w') : MS W d A n c v L w' := h.kept (row := none) (below_grows hb) (fun q e => by cases e) (fun q e => by cases e) (h.draw.below hb)
theorem MS.next (h : MS W d A n c v L w) (ho : Only d w w') (hd : DrawS d A n c w') : MS W d A n c v L w' :=
  h.kept ho (fun q e => by injection e with e; exact .inl e.symm) (fun q e hm => by injection e with e; subst e; have := (h.mine hm).1; have := h.dl; omega) hd
theorem MS.std (h : MS W d A n c v L w) (hs : StD w d A n c w') : MS W d A n c v L w' := h.next hs.1 hs.2
theorem MS.ints (h : MS W d A n c v L w) (hi : IntsIn d A n W) : IntsIn d A n w := hi.only (Nat.le_refl _) (Nat.le_of_lt h.dl) h.keep
/-- .. within a round: the offer in its box. -/
structure R7 (W : World) (B d : Nat) (A : Option Addr) (n c : Nat) (v : Value) (L : List Off) (ob : Nat) (o : Off) (w : World) : Prop where
  ms : MS W d A n c v L w
  lo : ∀ q, Mine v L q → q < B
  bl : W.heap.size ≤ B
  ol : B ≤ ob
  box : w.heap[ob]? = some (.cells #[.string o.code, .int .i64 o.credits, .int .i64 o.places, .slice o.sp o.slots.length o.sc, .slice o.np o.needs.length o.nc] 52 (0, 0))
  sl : w.ownsRow B 3 1 (.slice o.sp o.slots.length o.sc) o.slots.length (flatE encI o.slots)
  nd : w.ownsRow B 9 1 (.slice o.np o.needs.length o.nc) o.needs.length (flatE encT o.needs)
theorem R7.cell (h : R7 W B d A n c v L ob o w) (j : Nat) : w.cell? ⟨ob, j, none⟩ = (#[.string o.code, .int .i64 o.credits, .int .i64 o.places, .slice o.sp o.slots.length o.sc, .slice o.np o.needs.length o.nc] : Array Value)[j]? := Lib.cell_of_heap h.box j
theorem R7.next (h : R7 W B d A n c v L ob o w) (hs : Only d w w') (hd : DrawS d A n c w') : R7 W B d A n c v L ob o w' where
  ms := h.ms.next hs hd
  lo := h.lo
  bl := h.bl
  ol := h.ol
  box := (hs.block ob (Array.getElem?_eq_some_iff.1 h.box).1 (by have := h.ms.dl; have := h.bl; have := h.ol; simp; omega)).trans h.box
  sl := kept_if h.sl hs fun q hq e => by injection hq with hq; subst hq; have := (own_lo h.sl e).1; have := h.ms.dl; have := h.bl; omega
  nd := kept_if h.nd hs fun q hq e => by injection hq with hq; subst hq; have := (own_lo h.nd e).1; have := h.ms.dl; have := h.bl; omega
theorem R7.below (h : R7 W B d A n c v L ob o w) (hb : RowKit.Below w.heap.size w w') : R7 W B d A n c v L ob o w' where
  ms := h.ms.below hb
  lo := h.lo
  bl := h.bl
  ol := h.ol
  box := (hb.block ob (Array.getElem?_eq_some_iff.1 h.box).1).trans h.box
  sl := kept_if h.sl (row := none) (below_grows hb) fun q hq => by cases hq
  nd := kept_if h.nd (row := none) (below_grows hb) fun q hq => by cases hq
theorem DrawS.kept {row : Option Nat} (h : DrawS d A n c w) (hg : w.grownBy w' row) (hne : ∀ q, row = some q → q ≠ d) : DrawS d A n c w' := by
  obtain ⟨k, hk, hh⟩ := h
  exact ⟨k, hk, (hg.block d (Array.getElem?_eq_some_iff.1 hh).1 (fun e => hne d e.symm rfl)).trans hh⟩
theorem R7.lit (_hB : B ≤ w.heap.size) (h : MS W d A n c v L w) (hlo : ∀ q, Mine v L q → q < B) (hbl : W.heap.size ≤ B) (hol : B ≤ ob) {cc : ByteArray} {x y : Int}
    (hbx : w.heap[ob]? = some (.cells #[.string cc, .int .i64 x, .int .i64 y, .slice none 0 0, .slice none 0 0] 52 (0, 0))) : R7 W B d A n c v L ob ⟨cc, x, y, none, 0, none, 0, [], []⟩ w :=
  ⟨h, hlo, hbl, hol, hbx, World.ownsRow_nil _ _ _ _, World.ownsRow_nil _ _ _ _⟩
theorem R7.slot (h : R7 W B d A n c v L ob o w) {x : Int} {p : Option Addr} {cp : Nat} (hA : AppT encI 1 3 w B (.slice o.sp o.slots.length o.sc) o.slots [x] (.slice p (o.slots.length + 1) cp) w') :
    R7 W B d A n c v L ob { o with sp := p, sc := cp, slots := o.slots ++ [x] } (w'.setCell ⟨ob, 3, none⟩ (.slice p (o.slots.length + 1) cp)) := by
  have hlt := (Array.getElem?_eq_some_iff.1 h.box).1
  have hob : ∀ q, (Value.slice o.sp o.slots.length o.sc).ownBlock = some q → q ≠ ob := fun q hq e => by subst e; exact own_type h.sl h.box (by decide) hq
  have hq1 : ∀ q, (Value.slice o.sp o.slots.length o.sc).ownBlock = some q → B ≤ q := fun q hq => (own_lo h.sl hq).1
  have hbl := h.bl; have hdl := h.ms.dl; have hol := h.ol
  have hbx : w'.heap[ob]? = _ := (hA.grown.block ob hlt (fun e => hob ob e.symm rfl)).trans h.box
  have m1 : MS W d A n c v L w' := h.ms.kept hA.grown (fun q hq => .inr (by have := hq1 q hq; omega)) (fun q hq hm => by have := h.lo q hm; have := hq1 q hq; omega) (h.ms.draw.kept hA.grown fun q hq => by have := hq1 q hq; omega)
  have hs2 := Only.setCell w' ob 3 (.slice p (o.slots.length + 1) cp) 0
  have e1 : (o.slots ++ [x]).length = o.slots.length + 1 := by simp
  have hown := hA.own
  rw [e1] at hown
  refine ⟨m1.kept hs2 (fun q hq => .inr (by injection hq with hq; omega)) (fun q hq hm => by injection hq with hq; have := h.lo q hm; omega) (m1.draw.kept hs2 fun q hq => by injection hq with hq; omega), h.lo, h.bl, h.ol, ?_, ?_, ?_⟩
  · simp [World.setCell, Array.getElem?_modify, hbx]
  · have : (w'.setCell ⟨ob, 3, none⟩ (.slice p (o.slots.length + 1) cp)).ownsRow B 3 1 (.slice p (o.slots.length + 1) cp) (o.slots.length + 1) (flatE encI (o.slots ++ [x])) := kept_if hown hs2 fun q hq e => by injection hq with hq; subst hq; exact own_type hown hbx (by decide) e
    simpa using this
  · have k1 := h.nd.kept hA.grown (own_own h.nd h.sl (by decide))
    exact kept_if k1 hs2 fun q hq e => by injection hq with hq; subst hq; exact own_type k1 hbx (by decide) e
theorem R7.need (h : R7 W B d A n c v L ob o w) {x : ByteArray} {p : Option Addr} {cp : Nat} (hA : AppT encT 1 9 w B (.slice o.np o.needs.length o.nc) o.needs [x] (.slice p (o.needs.length + 1) cp) w') :
    R7 W B d A n c v L ob { o with np := p, nc := cp, needs := o.needs ++ [x] } (w'.setCell ⟨ob, 4, none⟩ (.slice p (o.needs.length + 1) cp)) := by
  have hlt := (Array.getElem?_eq_some_iff.1 h.box).1
  have hob : ∀ q, (Value.slice o.np o.needs.length o.nc).ownBlock = some q → q ≠ ob := fun q hq e => by subst e; exact own_type h.nd h.box (by decide) hq
  have hq1 : ∀ q, (Value.slice o.np o.needs.length o.nc).ownBlock = some q → B ≤ q := fun q hq => (own_lo h.nd hq).1
  have hbl := h.bl; have hdl := h.ms.dl; have hol := h.ol
  have hbx : w'.heap[ob]? = _ := (hA.grown.block ob hlt (fun e => hob ob e.symm rfl)).trans h.box
  have m1 : MS W d A n c v L w' := h.ms.kept hA.grown (fun q hq => .inr (by have := hq1 q hq; omega)) (fun q hq hm => by have := h.lo q hm; have := hq1 q hq; omega) (h.ms.draw.kept hA.grown fun q hq => by have := hq1 q hq; omega)
  have hs2 := Only.setCell w' ob 4 (.slice p (o.needs.length + 1) cp) 0
  have e1 : (o.needs ++ [x]).length = o.needs.length + 1 := by simp
  have hown := hA.own
  rw [e1] at hown
  refine ⟨m1.kept hs2 (fun q hq => .inr (by injection hq with hq; omega)) (fun q hq hm => by injection hq with hq; have := h.lo q hm; omega) (m1.draw.kept hs2 fun q hq => by injection hq with hq; omega), h.lo, h.bl, h.ol, ?_, ?_, ?_⟩
  · simp [World.setCell, Array.getElem?_modify, hbx]
  · have k1 := h.sl.kept hA.grown (own_own h.sl h.nd (by decide))
    exact kept_if k1 hs2 fun q hq e => by injection hq with hq; subst hq; exact own_type k1 hbx (by decide) e
  · have : (w'.setCell ⟨ob, 4, none⟩ (.slice p (o.needs.length + 1) cp)).ownsRow B 9 1 (.slice p (o.needs.length + 1) cp) (o.needs.length + 1) (flatE encT (o.needs ++ [x])) := kept_if hown hs2 fun q hq e => by injection hq with hq; subst hq; exact own_type hown hbx (by decide) e
    simpa using this
theorem R7.done (h : R7 W B d A n c v L ob o w) (hA : AppT Off.cells 5 52 w W.heap.size v L [o] v' w') : MS W d A n c v' (L ++ [o]) w' where
  keep := grow_keep h.ms.keep hA.grown fun q hq => (own_lo h.ms.rows hq).1
  draw := h.ms.draw.kept hA.grown fun q hq => by have := (own_lo h.ms.rows hq).1; have := h.ms.dl; omega
  rows := hA.own
  ok x hx := by
    rw [List.mem_append, List.mem_singleton] at hx
    rcases hx with hx | rfl
    · exact ⟨(h.ms.ok x hx).1.kept hA.grown (own_own (h.ms.ok x hx).1 h.ms.rows (by decide)), (h.ms.ok x hx).2.kept hA.grown (own_own (h.ms.ok x hx).2 h.ms.rows (by decide))⟩
    · exact ⟨row_base (h.sl.kept hA.grown (own_own h.sl h.ms.rows (by decide))) h.bl, row_base (h.nd.kept hA.grown (own_own h.nd h.ms.rows (by decide))) h.bl⟩
  dl := h.ms.dl
end
/-- A right offer that was made. -/
structure GoodO (o : Off) : Prop where
  code : o.code ∈ codesL
  c0 : 0 ≤ o.credits
  c1 : o.credits ≤ 20
  p0 : 0 ≤ o.places
  p1 : o.places ≤ 200
  sl : o.slots.length ≤ 4
  nd : o.needs.length ≤ 2
/-- A catalog that was made of the first k codes. -/
def GoodL (k : Nat) (L : List Off) : Prop := (∀ o ∈ L, GoodO o) ∧ (L.map Off.code).Sublist (codesL.take k)
theorem GoodL.skip {k : Nat} {L : List Off} (h : GoodL k L) : GoodL (k + 1) L := ⟨h.1, h.2.trans (by rw [List.take_add_one]; exact List.sublist_append_left _ _)⟩
theorem GoodL.put {k : Nat} {L : List Off} {o : Off} (h : GoodL k L) (ho : GoodO o) (hc : codesL[k]? = some o.code) : GoodL (k + 1) (L ++ [o]) := by
  refine ⟨fun x hx => ?_, ?_⟩
  · rw [List.mem_append, List.mem_singleton] at hx
    rcases hx with hx | rfl
    · exact h.1 x hx
    · exact ho
  · rw [take_one hc, List.map_append]
    exact h.2.append (List.Sublist.refl _)
theorem GoodL.len {k : Nat} {L : List Off} (h : GoodL k L) : L.length ≤ 6 := by
  have := h.2.length_le
  simp only [List.length_map, List.length_take] at this
  have : codesL.length = 6 := rfl
  omega
theorem intT : RowT Tryz.prog encI 1 3 22 where
  len _ := rfl
  one s u hu := by simp [encI] at hu; subst hu; rfl
  pos := by decide
  und := Tryz.underlying22
  info := by
    obtain ⟨i0, hi, h1, h2, h3⟩ := info_parts (show (Tryz.prog.info? 3).map (fun i => (i.zero, i.size, i.bytes)) = some (some (.int .i64 0), 1, 8) by kernel_rfl)
    exact ⟨i0, _, hi, h1, h2, rfl, by omega⟩
theorem strT : RowT Tryz.prog encT 1 9 50 where
  len _ := rfl
  one s u hu := by simp [encT] at hu; subst hu; rfl
  pos := by decide
  und := Tryz.underlying50
  info := by
    obtain ⟨i0, hi, h1, h2, h3⟩ := info_parts (show (Tryz.prog.info? 9).map (fun i => (i.zero, i.size, i.bytes)) = some (some (.string ⟨#[]⟩), 1, 16) by kernel_rfl)
    exact ⟨i0, _, hi, h1, h2, rfl, by omega⟩
theorem offT : RowT Tryz.prog Off.cells 5 52 28 where
  len _ := rfl
  one s u hu := by simp [Off.cells] at hu; rcases hu with rfl | rfl | rfl | rfl | rfl <;> rfl
  pos := by decide
  und := Tryz.underlying28
  info := by
    obtain ⟨i0, hi, h1, h2, h3⟩ := info_parts (show (Tryz.prog.info? 52).map (fun i => (i.zero, i.size, i.bytes)) = some (some (.agg #[.string ⟨#[]⟩, .int .i64 0, .int .i64 0, .slice none 0 0, .slice none 0 0]), 5, 80) by kernel_rfl)
    exact ⟨i0, _, hi, h1, h2, rfl, by omega⟩
end Go.Proofs.YtbihaoadgcckhaaGreat
