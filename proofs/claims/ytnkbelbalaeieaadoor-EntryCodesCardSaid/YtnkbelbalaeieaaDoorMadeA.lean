/- quadriviumref10.Made: a list of right entries. -/
import Derived.Test.YtnkbelbalaeieaaDoorOdd
import Derived.Test.YtnkbelbalaeieaaDoorPick
import Derived.Test.YtnkbelbalaeieaaDoorPiece
import Derived.Laws.Cover1
import Derived.Deep.DeepCutAuto
import Derived.Deep.CutBlock
import Derived.Deep.MidRow
namespace Go.Proofs.YtnkbelbalaeieaaDoor
open Go Go.RowKit Go.Sort Go.Lib
attribute [local go_sem] Ent.cells

def codesL : List ByteArray := [⟨#[65, 49]⟩, ⟨#[66, 49]⟩, ⟨#[66, 50]⟩, ⟨#[67, 49]⟩, ⟨#[68, 49]⟩, ⟨#[69, 57]⟩]

theorem codes_any (w : World) :
    Calls Tryd.prog 60 #[] w fun x w' => x = .returned (.slice (some ⟨w.heap.size, 0, none⟩) 6 6) ∧ w' = w.alloc (.cells #[.string ⟨#[65, 49]⟩, .string ⟨#[66, 49]⟩, .string ⟨#[66, 50]⟩, .string ⟨#[67, 49]⟩, .string ⟨#[68, 49]⟩, .string ⟨#[69, 57]⟩] 9) := by
  go_enter Tryd.func60, Tryd.ntmps60
  go_wp2_with fail
  go_ret
  exact ⟨rfl, rfl⟩

/-- A list of entries as 'Made' makes them, for a school. -/
structure Good (sc : Int) (e : Ent) : Prop where
  id : 1 ≤ e.id ∧ e.id ≤ 24
  school : e.school = sc
  student : 1 ≤ e.student ∧ e.student ≤ 3
  kind : 1 ≤ e.kind ∧ e.kind ≤ 9
  day : 0 ≤ e.day ∧ e.day ≤ 600
  on : 0 ≤ e.on ∧ e.on ≤ e.day
  key : e.key = 0
  mark : e.mark = ⟨#[]⟩
  course : if e.kind = 3 then e.course ∈ codesL ∧ (e.credits = 5 ∨ e.credits = 6 ∨ e.credits = 10) else e.course = ⟨#[]⟩ ∧ e.credits = 0
  grade : if e.kind = 3 ∨ e.kind = 4 then 0 ≤ e.grade ∧ e.grade ≤ 100 else e.grade = 0
  ref : if e.kind = 4 ∨ e.kind = 5 ∨ e.kind = 6 ∨ e.kind = 9 then 1 ≤ e.ref ∧ e.ref < e.id else e.ref = 0
  fro : if e.kind = 7 then e.fro = 1 + sc % 3 else e.fro = 0
  programme : if e.kind = 1 ∨ e.kind = 8 ∨ e.kind = 2 then 1 ≤ e.programme ∧ e.programme ≤ 2 else e.programme = 0
  version : if e.kind = 2 then 1 ≤ e.version ∧ e.version ≤ 3 else e.version = 0

structure MadeOk (sc : Int) (es : List Ent) : Prop where
  len : es.length ≤ 24
  good : ∀ e ∈ es, Good sc e
  ids : ∀ (k : Nat) (e : Ent), es[k]? = some e → e.id = k + 1
  days : ∀ (i j : Nat) (a b : Ent), i ≤ j → es[i]? = some a → es[j]? = some b → a.day ≤ b.day

/-- The draw in block d, somewhere on its way. -/
def DrawS (d : Nat) (A : Option Addr) (n c : Nat) (w : World) : Prop := ∃ k, k ≤ n ∧ DrawAt w d A n c k

def NextP (d : Nat) (A : Option Addr) (n c : Nat) (m : Nat) (w : World) (x : Ending) (w' : World) : Prop :=
  ∃ v : Nat, x = .returned (.int .i64 v) ∧ v < m ∧ DrawS d A n c w' ∧ Only d w w'

theorem next_st (d : Nat) (A : Option Addr) (n c : Nat) (m : Nat) (w : World) (hm : 0 < m) (hm2 : m ≤ 1000000) (hd : DrawS d A n c w) (hi : IntsIn d A n w) :
    Calls Tryd.prog 58 #[.pointer (some ⟨d, 0, none⟩), .int .i64 m] w (NextP d A n c m w) := by
  obtain ⟨k, hk, hd⟩ := hd
  refine (next_any d d A n c k m w (by omega) (by omega) hd (Nat.le_refl _) hk hi).mono ?_
  rintro x w' ⟨v, rfl, h0, h1, ⟨k', hk', hd'⟩, ho⟩
  exact ⟨v.toNat, by rw [Int.toNat_of_nonneg h0], by omega, ⟨k', hk', hd'⟩, ho⟩

/-- What a round of 'Made' keeps: the old memory, the list so far, the draw (in block w.heap.size). -/
structure MR (w : World) (A : Option Addr) (n c : Nat) (v : Value) (es : List Ent) (wr : World) : Prop where
  below : RowKit.Below w.heap.size w wr
  ents : Ents w.heap.size wr v es
  draw : DrawS w.heap.size A n c wr
  ints : IntsIn w.heap.size A n wr

theorem ents_ne {base : Nat} {w : World} {v : Value} {es : List Ent} {d : Nat} {cs : Array Value} {t : TypeId} (h : Ents base w v es) (hd : w.heap[d]? = some (.cells cs t (0, 0))) (ht : t ≠ 26) : v.ownBlock ≠ some d := by
  rcases h.2 with ⟨hv, _⟩ | ⟨g, cap, cur, hv, hb, hg, _⟩
  · rw [hv]; simp [Value.ownBlock]
  · rw [hv]
    intro e
    have e' : g = d := by simpa [Value.ownBlock] using e
    subst e'
    rw [hg] at hd
    injection hd with hd
    injection hd with _ hd
    exact ht hd.symm

theorem IntsIn.only {B d : Nat} {A : Option Addr} {n : Nat} {w w' : World} (h : IntsIn B A n w) (hB : B ≤ d) (hw : B ≤ w.heap.size) (ho : Only d w w') : IntsIn B A n w' :=
  h.below ⟨ho.os, ho.tape, ho.output, ho.size, fun k hk => ho.block k (by omega) (by simp; omega)⟩

theorem MR.only {w wr w' : World} {A : Option Addr} {n c : Nat} {v : Value} {es : List Ent} (h : MR w A n c v es wr) (hd : DrawS w.heap.size A n c w') (ho : Only w.heap.size wr w') : MR w A n c v es w' := by
  obtain ⟨k, hk, hda⟩ := h.draw
  refine ⟨h.below.trans ⟨ho.os, ho.tape, ho.output, ho.size, fun k hk => ho.block k (by have := h.below.size; omega) (by simp; omega)⟩, ?_, hd, h.ints.only (Nat.le_refl _) h.below.size ho⟩
  exact World.ownsRow.kept h.ents ho (.inr (ents_ne h.ents hda (by decide)))

theorem MR.below' {w wr w' : World} {A : Option Addr} {n c : Nat} {v : Value} {es : List Ent} (h : MR w A n c v es wr) (hb : RowKit.Below wr.heap.size wr w') : MR w A n c v es w' := by
  obtain ⟨k, hk, hda⟩ := h.draw
  refine ⟨h.below.trans (hb.mono h.below.size), h.ents.below hb, ⟨k, hk, ?_⟩, h.ints.below (hb.mono h.below.size)⟩
  unfold DrawAt at *
  rw [hb.block _ (lt_of_heap hda)]; exact hda

theorem MR.set {w wr : World} {A : Option Addr} {n c : Nat} {v : Value} {es : List Ent} (h : MR w A n c v es wr) {b : Nat} (hb : w.heap.size < b) (hv : v.ownBlock ≠ some b) (j : Nat) (u : Value) : MR w A n c v es (wr.setCell ⟨b, j, none⟩ u) := by
  obtain ⟨k, hk, hda⟩ := h.draw
  have ho : wr.grownBy (wr.setCell ⟨b, j, none⟩ u) (some b) := ⟨rfl, rfl, rfl, by simp [World.setCell], fun k _ hk => Below.heap_setCell _ _ _ _ (by simpa using hk)⟩
  have hbl : RowKit.Below w.heap.size wr (wr.setCell ⟨b, j, none⟩ u) := ⟨rfl, rfl, rfl, by simp [World.setCell], fun k hk => Below.heap_setCell _ _ _ _ (by show k ≠ b; omega)⟩
  refine ⟨h.below.trans hbl, World.ownsRow.kept h.ents ho (.inr hv), ⟨k, hk, ?_⟩, h.ints.below hbl⟩
  unfold DrawAt at *
  rw [Below.heap_setCell _ _ _ _ (by show w.heap.size ≠ b; omega)]; exact hda

theorem EntBox.only {w w' : World} {b d : Nat} {e : Ent} (h : EntBox w b e) (ho : Only d w w') (hbd : b ≠ d) : EntBox w' b e := by
  unfold EntBox at *
  rw [ho.block b (lt_of_heap h) (by simpa using hbd)]; exact h
theorem IntRow.only {w w' : World} {b d : Nat} {l : List Int} (h : IntRow w b l) (ho : Only d w w') (hbd : b ≠ d) : IntRow w' b l := by
  unfold IntRow at *
  rw [ho.block b (lt_of_heap h) (by simpa using hbd)]; exact h
theorem EntBox.set {w : World} {b : Nat} {e e' : Ent} (h : EntBox w b e) (j : Nat) (u : Value) (he : e.cells.setIfInBounds j u = e'.cells) : EntBox (w.setCell ⟨b, j, none⟩ u) b e' := by
  unfold EntBox at *
  rw [← he]
  simp [World.setCell, Array.getElem?_modify, h]
theorem EntBox.frozen {w : World} {b : Nat} {e : Ent} (h : EntBox w b e) (j : Nat) : w.frozen? ⟨b, j, none⟩ = false := Lib.frozen_of_heap h j
theorem IntRow.set {w : World} {b b' j : Nat} {u : Value} {l : List Int} (h : IntRow w b l) (hb : b ≠ b') : IntRow (w.setCell ⟨b', j, none⟩ u) b l := by
  unfold IntRow at *
  rw [Below.heap_setCell _ _ _ _ hb]; exact h

def kindL : List Int := [1, 3, 3, 3, 3, 3, 4, 5, 6, 7, 8, 9, 2, 3, 8]
theorem kindL_range (k : Nat) (h : k < 15) : 1 ≤ kindL.getD k 0 ∧ kindL.getD k 0 ≤ 9 := by
  have : ∀ i : Fin 15, 1 ≤ kindL.getD i.1 0 ∧ kindL.getD i.1 0 ≤ 9 := by decide
  exact this ⟨k, h⟩

/-- Block b is as it was: its cells, its marks. -/
theorem same_cells {w w' : World} {b : Nat} (h : w'.heap[b]? = w.heap[b]?) : (∀ j, w'.cell? ⟨b, j, none⟩ = w.cell? ⟨b, j, none⟩) ∧ (∀ j, w'.frozen? ⟨b, j, none⟩ = w.frozen? ⟨b, j, none⟩) :=
  ⟨fun _ => World.cell?_of_block h, fun _ => World.frozen?_of_block h⟩
theorem heap_set {W : World} {b : Nat} {cs : Array Value} {t : TypeId} {fz : Nat × Nat} (h : W.heap[b]? = some (.cells cs t fz)) (j : Nat) (u : Value) : (W.setCell ⟨b, j, none⟩ u).heap[b]? = some (.cells (cs.setIfInBounds j u) t fz) := by
  simp [World.setCell, Array.getElem?_modify, h]
theorem heap_keep {W : World} {b : Nat} {o : Obj} (h : W.heap[b]? = some o) (o' : Obj) : (W.alloc o').heap[b]? = some o := (Below.heap_alloc W o' b (lt_of_heap h)).trans h
theorem setCell_size (w : World) (a : Addr) (u : Value) : (w.setCell a u).heap.size = w.heap.size := by simp [World.setCell]

/-- A call between two worlds of a round: the round's facts, and each older block but the draw's. -/
def NextM (w : World) (A : Option Addr) (n c : Nat) (v : Value) (es : List Ent) (eb : Nat) (m : Nat) (W : World) (x : Ending) (w' : World) : Prop :=
  ∃ g : Nat, x = .returned (.int .i64 g) ∧ g < m ∧ MR w A n c v es w' ∧ (∀ o, W.heap[eb]? = some o → w'.heap[eb]? = some o) ∧ eb < w'.heap.size
theorem next_mr (w : World) (A : Option Addr) (n c : Nat) (v : Value) (es : List Ent) (eb : Nat) (m : Nat) (W : World) (hm : 0 < m) (hm2 : m ≤ 1000000) (heb : w.heap.size < eb) (hlt : eb < W.heap.size) (hM : MR w A n c v es W) :
    Calls Tryd.prog 58 #[.pointer (some ⟨w.heap.size, 0, none⟩), .int .i64 m] W (NextM w A n c v es eb m W) := by
  refine (next_st w.heap.size A n c m _ hm hm2 hM.draw hM.ints).mono ?_
  rintro x w' ⟨g, rfl, hg, hd, ho⟩
  have hb := ho.block eb hlt (by simp; omega)
  exact ⟨g, rfl, hg, hM.only hd ho, fun o h => hb.trans h, Nat.lt_of_lt_of_le hlt ho.size⟩
def PickM (w : World) (A : Option Addr) (n c : Nat) (v : Value) (es : List Ent) (eb : Nat) (W : World) (x : Ending) (w' : World) : Prop :=
  ∃ r : Int, x = .returned (.int .i64 r) ∧ (r = 0 ∨ 1 ≤ r ∧ r ≤ es.length) ∧ MR w A n c v es w' ∧ (∀ o, W.heap[eb]? = some o → w'.heap[eb]? = some o) ∧ eb < w'.heap.size
theorem made_id {sc : Int} {es : List Ent} (hok : MadeOk sc es) {e : Ent} (he : e ∈ es) : 1 ≤ e.id ∧ e.id ≤ es.length := by
  obtain ⟨i, hi, rfl⟩ := List.getElem_of_mem he
  have := hok.ids i _ (List.getElem?_eq_getElem hi)
  omega
theorem pick_mr (w : World) (A : Option Addr) (n c : Nat) (v : Value) (es : List Ent) (eb : Nat) (st kd sc : Int) (nn : Nat) (W : World) (hnn : nn ≤ 1000) (hok : MadeOk sc es) (hlt : eb < W.heap.size) (hM : MR w A n c v es W) :
    Calls Tryd.prog 59 #[v, .int .i64 st, .int .i64 kd, .int .i64 nn] W (PickM w A n c v es eb W) := by
  refine (pick_any w.heap.size v es st kd nn W hM.ents (by have := hok.len; omega) hnn).mono ?_
  rintro x w' ⟨r, rfl, hr, hb⟩
  refine ⟨r, rfl, ?_, hM.below' hb, fun o h => (hb.block eb hlt).trans h, Nat.lt_of_lt_of_le hlt hb.size⟩
  rcases hr with rfl | ⟨e, he, _, _, rfl⟩
  · exact .inl rfl
  · exact .inr (made_id hok he)
def OnM (day : Int) (W : World) (x : Ending) (w' : World) : Prop := ∃ r : Int, x = .returned (.int .i64 r) ∧ 0 ≤ r ∧ r ≤ day ∧ W = w'
theorem on_mr (w : World) (A : Option Addr) (n c : Nat) (v : Value) (es : List Ent) (id sc day : Int) (W : World) (hday : 0 ≤ day) (hd : ∀ e ∈ es, e.day ≤ day) (hok : MadeOk sc es) (hM : MR w A n c v es W) :
    Calls Tryd.prog 61 #[v, .int .i64 id] W (OnM day W) := by
  refine (on_any w.heap.size v es id W hM.ents (by have := hok.len; omega)).mono ?_
  rintro x w' ⟨r, rfl, hr, rfl⟩
  refine ⟨r, rfl, ?_⟩
  rcases hr with rfl | ⟨e, he, rfl⟩
  · exact ⟨by omega, hday, rfl⟩
  · have h1 := (hok.good e he).on
    have h2 := hd e he
    exact ⟨h1.1, by omega, rfl⟩

/-- max(0, a, b): from 0 to D. -/
theorem max3 (a b D : Int) (ha : a ≤ D) (hb : b ≤ D) (hD : 0 ≤ D) : ∃ m, 0 ≤ m ∧ m ≤ D ∧ ∀ (ts : Array TypeId) (t : TypeId) (W : World), (Builtin.max_ ts t #[.int .i64 0, .int .i64 a, .int .i64 b]).run Tryd.prog W = .ok (.int .i64 m) W :=
  ⟨if b > (if a > 0 then a else 0) then b else (if a > 0 then a else 0), by split <;> split <;> omega, by split <;> split <;> omega, fun ts t W => run_max_int3 W ts t _ _ _ 0 a b⟩

theorem ent_info : (Tryd.prog.info? 26).map (fun i => (i.zero, i.size, i.bytes)) = some (some (.agg #[.int .i64 0, .int .i64 0, .int .i64 0, .int .i64 0, .int .i64 0, .int .i64 0, .string ⟨#[]⟩, .int .i64 0, .int .i64 0, .int .i64 0, .int .i64 0, .int .i64 0, .int .i64 0, .int .i64 0, .string ⟨#[]⟩]), 15, 136) := by kernel_rfl

theorem entCells_snoc (es : List Ent) (e : Ent) : entCells es ++ e.cells.toList = entCells (es ++ [e]) := by simp [entCells]

/-- append of one entry that was just laid, onto a row of the call's own. -/
theorem app_ent {ops : Array Oper} {rest : List Oper} {o : Oper} {a : Act} {W : World} {Q : Exit → Act → World → Prop} (hgd : o.guard = none) (s x : Operand)
    (ho : o.op = .call { callee := .builtin .append, args := #[s, x], argTypes := #[28, 28] }) (base : Nat) (v : Value) (es : List Ent) (hs : a.eval s = v) (hown : Ents base W v es) (e : Ent)
    (b : Nat) (hb : W.heap.size = b) (hx : a.eval x = .slice (some ⟨b, 0, none⟩) 1 1) (hlen : es.length ≤ 100000) (hbase : base ≤ W.heap.size)
    (h : ∀ v' w', Ents base w' v' (es ++ [e]) → (W.alloc (.cells e.cells 26)).grownBy w' v.ownBlock → wpList Tryd.prog ops Q rest (a.put o.dst v') w') : wpList Tryd.prog ops Q (o :: rest) a (W.alloc (.cells e.cells 26)) := by
  subst hb
  obtain ⟨i0, hi, hz0, hz1, hz2⟩ := info_parts ent_info
  refine wpList_append_own _ hgd s x 28 ho base 26 i0 _ 15 136 Tryd.underlying28 hi hz0 hz1 hz2 rfl (by decide) v es.length (entCells es) hs (World.ownsRow.alloc hown _) ⟨W.heap.size, 0, none⟩ 1 1 e.cells.toList hx rfl ?_ ?_ (by unfold maxLen; omega) (by omega) (by simp; omega) ?_
  · intro j u hj
    have hadd : (⟨W.heap.size, 0, none⟩ : Addr).add j = ⟨W.heap.size, j, none⟩ := by unfold Addr.add; split <;> simp_all
    rw [hadd, Lib.cell_of_heap (heap_alloc_new W _)]
    simpa using hj
  · intro u hu
    simp [Ent.cells] at hu
    rcases hu with rfl | rfl | rfl | rfl | rfl | rfl | rfl | rfl | rfl | rfl | rfl | rfl | rfl | rfl | rfl <;> rfl
  · intro v' w' ho hg _
    refine h v' w' ?_ hg
    unfold Ents
    rw [← entCells_snoc, List.length_append]
    exact ho

theorem MR.append {w W w' : World} {A : Option Addr} {n c : Nat} {v v' : Value} {es : List Ent} {e : Ent} {o : Obj} (h : MR w A n c v es W) (hown : Ents w.heap.size w' v' (es ++ [e])) (hg : (W.alloc o).grownBy w' v.ownBlock) : MR w A n c v' (es ++ [e]) w' := by
  obtain ⟨k, hk, hda⟩ := h.draw
  have hne := ents_ne h.ents hda (by decide)
  have hb : RowKit.Below w.heap.size W w' := ((below_alloc1 W o).mono h.below.size).grown hg (by simp; have := h.below.size; omega) (fun q hq => (World.ownsRow.lt h.ents q hq).1)
  refine ⟨h.below.trans hb, hown, ⟨k, hk, ?_⟩, h.ints.below hb⟩
  unfold DrawAt at *
  rw [hg.block _ (by simp; have := lt_of_heap hda; omega) (fun e => hne e.symm), Below.heap_alloc _ _ _ (lt_of_heap hda)]
  exact hda

theorem MadeOk.snoc {sc : Int} {es : List Ent} (h : MadeOk sc es) {e : Ent} (hl : es.length < 24) (hg : Good sc e) (hid : e.id = es.length + 1) (hd : ∀ a ∈ es, a.day ≤ e.day) : MadeOk sc (es ++ [e]) := by
  refine ⟨by simp; omega, ?_, ?_, ?_⟩
  · intro a ha
    rcases List.mem_append.1 ha with ha | ha
    · exact h.good a ha
    · simp at ha; subst ha; exact hg
  · intro k a ha
    rcases Nat.lt_or_ge k es.length with hk | hk
    · rw [List.getElem?_append_left hk] at ha; exact h.ids k a ha
    · rw [List.getElem?_append_right hk] at ha
      have h0 : k - es.length = 0 := by
        rcases Nat.eq_zero_or_pos (k - es.length) with h0 | h0
        · exact h0
        · rw [List.getElem?_eq_none (by simp; omega)] at ha; cases ha
      rw [h0] at ha
      simp at ha
      subst ha
      rw [hid]; omega
  · intro i j a b hij ha hb
    rcases Nat.lt_or_ge j es.length with hj | hj
    · rw [List.getElem?_append_left hj] at hb
      rw [List.getElem?_append_left (by omega)] at ha
      exact h.days i j a b hij ha hb
    · rw [List.getElem?_append_right hj] at hb
      have h0 : j - es.length = 0 := by
        rcases Nat.eq_zero_or_pos (j - es.length) with h0 | h0
        · exact h0
        · rw [List.getElem?_eq_none (by simp; omega)] at hb; cases hb
      rw [h0] at hb
      simp at hb
      subst hb
      rcases Nat.lt_or_ge i es.length with hi | hi
      · rw [List.getElem?_append_left hi] at ha; exact hd a (List.mem_of_getElem? ha)
      · have : i = j := by omega
        subst this
        rw [List.getElem?_append_right hi, h0] at ha
        simp at ha
        subst ha
        exact Int.le_refl _

/-- The entry of a round. -/
def mkE (id sc st kd day on : Int) (co : ByteArray) (cr gr rf fr pg vs : Int) : Ent := ⟨id, sc, st, kd, day, on, co, cr, gr, rf, fr, pg, vs, 0, ⟨#[]⟩⟩
def isRef (kd : Int) : Bool := kd == 4 || kd == 5 || kd == 6 || kd == 9
/-- What the switch leaves in the fields. -/
def SwOk (kd sc n rf fr pg vs : Int) : Prop := (if isRef kd = true then rf = 0 ∨ 1 ≤ rf ∧ rf ≤ n else rf = 0) ∧ (if kd = 7 then fr = 1 + sc % 3 else fr = 0) ∧
  (if kd = 1 ∨ kd = 8 ∨ kd = 2 then 1 ≤ pg ∧ pg ≤ 2 else pg = 0) ∧ (if kd = 2 then 1 ≤ vs ∧ vs ≤ 3 else vs = 0)
def RA (w : World) (A : Option Addr) (n c : Nat) (v : Value) (es : List Ent) (eb : Nat) (id sc st kd day : Int) (wx : World) : Prop :=
  ∃ rf fr pg vs, EntBox wx eb (mkE id sc st kd day 0 ⟨#[]⟩ 0 0 rf fr pg vs) ∧ MR w A n c v es wx ∧ SwOk kd sc es.length rf fr pg vs ∧ eb < wx.heap.size
def SwB (kd sc n rf fr pg vs : Int) : Prop := (1 ≤ kd ∧ kd ≤ 9) ∧ (if isRef kd = true then 1 ≤ rf ∧ rf ≤ n else rf = 0) ∧ (if kd = 7 then fr = 1 + sc % 3 else fr = 0) ∧
  (if kd = 1 ∨ kd = 8 ∨ kd = 2 then 1 ≤ pg ∧ pg ≤ 2 else pg = 0) ∧ (if kd = 2 then 1 ≤ vs ∧ vs ≤ 3 else vs = 0)
theorem SwOk.three {kd sc n rf fr pg vs : Int} (h : SwOk kd sc n rf fr pg vs) (hk : kd = 1 ∨ kd = 2 ∨ kd = 3 ∨ kd = 4 ∨ kd = 5 ∨ kd = 6 ∨ kd = 7 ∨ kd = 8 ∨ kd = 9) (hr : isRef kd = true) (h0 : rf = 0) : SwB 3 sc n rf fr pg vs := by
  unfold SwOk at h; unfold SwB
  rcases hk with rfl | rfl | rfl | rfl | rfl | rfl | rfl | rfl | rfl <;> simp [isRef] at hr h ⊢ <;> omega
theorem SwOk.same {kd sc n rf fr pg vs : Int} (h : SwOk kd sc n rf fr pg vs) (hk : kd = 1 ∨ kd = 2 ∨ kd = 3 ∨ kd = 4 ∨ kd = 5 ∨ kd = 6 ∨ kd = 7 ∨ kd = 8 ∨ kd = 9) (hr : ¬ (isRef kd = true ∧ rf = 0)) : SwB kd sc n rf fr pg vs := by
  unfold SwOk at h; unfold SwB
  rcases hk with rfl | rfl | rfl | rfl | rfl | rfl | rfl | rfl | rfl <;> simp [isRef] at hr h ⊢ <;> omega
def CoOk (kd : Int) (co : ByteArray) (cr : Int) : Prop := if kd = 3 then co ∈ codesL ∧ (cr = 5 ∨ cr = 6 ∨ cr = 10) else co = ⟨#[]⟩ ∧ cr = 0
def GrOk (kd gr : Int) : Prop := if kd = 3 ∨ kd = 4 then 0 ≤ gr ∧ gr ≤ 100 else gr = 0
def RB (w : World) (A : Option Addr) (n c : Nat) (v : Value) (es : List Ent) (eb : Nat) (id sc st day : Int) (wx : World) : Prop :=
  ∃ kd rf fr pg vs, EntBox wx eb (mkE id sc st kd day 0 ⟨#[]⟩ 0 0 rf fr pg vs) ∧ MR w A n c v es wx ∧ SwB kd sc es.length rf fr pg vs ∧ eb < wx.heap.size
def RC (w : World) (A : Option Addr) (n c : Nat) (v : Value) (es : List Ent) (eb : Nat) (id sc st day : Int) (wx : World) : Prop :=
  ∃ kd co cr rf fr pg vs, EntBox wx eb (mkE id sc st kd day 0 co cr 0 rf fr pg vs) ∧ MR w A n c v es wx ∧ SwB kd sc es.length rf fr pg vs ∧ CoOk kd co cr ∧ eb < wx.heap.size
def RD (w : World) (A : Option Addr) (n c : Nat) (v : Value) (es : List Ent) (eb : Nat) (id sc st day : Int) (wx : World) : Prop :=
  ∃ kd co cr gr rf fr pg vs, EntBox wx eb (mkE id sc st kd day 0 co cr gr rf fr pg vs) ∧ MR w A n c v es wx ∧ SwB kd sc es.length rf fr pg vs ∧ CoOk kd co cr ∧ GrOk kd gr ∧ eb < wx.heap.size
theorem good_of (day : Int) {kd sc n rf fr pg vs cr gr : Int} {co : ByteArray} (h : SwB kd sc n rf fr pg vs) (hc : CoOk kd co cr) (hg : GrOk kd gr) :
    ∀ id st on : Int, id = n + 1 ∧ id ≤ 24 → 1 ≤ st ∧ st ≤ 3 → 0 ≤ on ∧ on ≤ day ∧ day ≤ 600 ∧ 0 ≤ n → Good sc (mkE id sc st kd day on co cr gr rf fr pg vs) := by
  intro id st on h1 h2 h3
  obtain ⟨hk, hr, hf, hp, hv⟩ := h
  unfold GrOk at hg
  refine ⟨by simp only [mkE]; omega, rfl, h2, hk, by simp only [mkE]; omega, by simp only [mkE]; omega, rfl, rfl, hc, hg, ?_, hf, hp, hv⟩
  have e : (isRef kd = true) ↔ (kd = 4 ∨ kd = 5 ∨ kd = 6 ∨ kd = 9) := by simp [isRef, or_assoc]
  simp only [e] at hr
  simp only [mkE]
  by_cases hx : kd = 4 ∨ kd = 5 ∨ kd = 6 ∨ kd = 9
  · rw [if_pos hx] at hr
    first | (rw [if_pos hx]; omega) | (simp only [hx, if_true]; omega)
  · rw [if_neg hx] at hr
    first | (rw [if_neg hx]; exact hr) | (simp only [hx, if_false]; exact hr)

/-- What 'Made' leaves. -/
def MadePost (sc : Int) (w : World) (x : Ending) (w' : World) : Prop := ∃ v es, x = .returned v ∧ MadeOk sc es ∧ Ents w.heap.size w' v es ∧ RowKit.Below w.heap.size w w'

end Go.Proofs.YtnkbelbalaeieaaDoor
