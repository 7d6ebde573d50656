/- quadriviumref07.Made, walked. -/
import Derived.Test.YtjcogpalmgcpbaaMkSn
import Derived.Test.YtjcogpalmgcpbaaWPar
/- quadriviumref07.Made: a catalog that numbers make; its first statement of a round, in whatever order. -/
namespace Go.Proofs.Ytjcogpalmgcpbaa
open Go Go.Proofs Go.RowKit Go.Maps Go.Sort Go.Lib



section
variable {W w w' : World} {d n c : Nat} {A : Option Addr} {u : Value} {l : List Int} {cc : ByteArray}












def Six (W w : World) (u : Value) (l : List Int) : Prop := ∃ b, u = .slice (some ⟨b, 0, none⟩) 6 6 ∧ W.heap.size ≤ b ∧ w.heap[b]? = some (.cells (l.map (Value.int .i64)).toArray 3 (0, 0))
def SixAt (W w : World) (u : Value) (l : List Int) : Prop := ∃ b g : Nat, u = .pointer (some ⟨b, g, none⟩) ∧ g < 6 ∧ W.heap.size ≤ b ∧ w.heap[b]? = some (.cells (l.map (Value.int .i64)).toArray 3 (0, 0))
theorem Six.step (h : Six W w u l) (hs : w.grownBy w' (some d)) (hd : d < W.heap.size) : Six W w' u l := by
  obtain ⟨b, h1, h2, h3⟩ := h
  exact ⟨b, h1, h2, (hs.block b (Array.getElem?_eq_some_iff.1 h3).1 (by simp; omega)).trans h3⟩
theorem SixAt.step (h : SixAt W w u l) (hs : w.grownBy w' (some d)) (hd : d < W.heap.size) : SixAt W w' u l := by
  obtain ⟨b, g, h1, h0, h2, h3⟩ := h
  exact ⟨b, g, h1, h0, h2, (hs.block b (Array.getElem?_eq_some_iff.1 h3).1 (by simp; omega)).trans h3⟩
def Below6 (u : Value) : Prop := ∃ g : Nat, u = .int .i64 g ∧ g < 6
def Small20 (u : Value) : Prop := ∃ x : Int, u = .int .i64 x ∧ 0 ≤ x ∧ x ≤ 20
def Small200 (u : Value) : Prop := ∃ x : Int, u = .int .i64 x ∧ 0 ≤ x ∧ x ≤ 200
def BuiltO (cc : ByteArray) (u : Value) : Prop := ∃ x y : Int, u = .agg #[.string cc, .int .i64 x, .int .i64 y, .slice none 0 0, .slice none 0 0] ∧ 0 ≤ x ∧ x ≤ 20 ∧ 0 ≤ y ∧ y ≤ 200
def BoxO (W : World) (cc : ByteArray) (st : Bool) (u : Value) (w : World) : Prop := ∃ b, u = .pointer (some ⟨b, 0, none⟩) ∧ W.heap.size ≤ b ∧ (st = false → w.heap[b]? = some (.cells #[.string ⟨#[]⟩, .int .i64 0, .int .i64 0, .slice none 0 0, .slice none 0 0] 29 (0, 0))) ∧
  (st = true → ∃ x y : Int, w.heap[b]? = some (.cells #[.string cc, .int .i64 x, .int .i64 y, .slice none 0 0, .slice none 0 0] 29 (0, 0)) ∧ 0 ≤ x ∧ x ≤ 20 ∧ 0 ≤ y ∧ y ≤ 200)
theorem BoxO.step {st : Bool} (h : BoxO W cc st u w) (hs : w.grownBy w' (some d)) (hd : d < W.heap.size) : BoxO W cc st u w' := by
  obtain ⟨b, h1, h2, h3, h4⟩ := h
  refine ⟨b, h1, h2, fun e => ?_, fun e => ?_⟩
  · have h := h3 e
    exact (hs.block b (Array.getElem?_eq_some_iff.1 h).1 (by simp; omega)).trans h
  · obtain ⟨x, y, h, hr⟩ := h4 e
    exact ⟨x, y, (hs.block b (Array.getElem?_eq_some_iff.1 h).1 (by simp; omega)).trans h, hr⟩
theorem six_cr {g : Nat} (hg : g < 6) : ∃ x : Int, ([5, 6, 3, 10, 5, 20] : List Int)[g]? = some x ∧ 0 ≤ x ∧ x ≤ 20 := by
  have h : g = 0 ∨ g = 1 ∨ g = 2 ∨ g = 3 ∨ g = 4 ∨ g = 5 := by omega
  rcases h with rfl | rfl | rfl | rfl | rfl | rfl <;> exact ⟨_, rfl, by omega, by omega⟩
theorem six_pl {g : Nat} (hg : g < 6) : ∃ x : Int, ([2, 1, 0, 30, 200, 3] : List Int)[g]? = some x ∧ 0 ≤ x ∧ x ≤ 200 := by
  have h : g = 0 ∨ g = 1 ∨ g = 2 ∨ g = 3 ∨ g = 4 ∨ g = 5 := by omega
  rcases h with rfl | rfl | rfl | rfl | rfl | rfl <;> exact ⟨_, rfl, by omega, by omega⟩
theorem six_cell {b g : Nat} {x : Int} (h : w.heap[b]? = some (.cells (l.map (Value.int .i64)).toArray 3 (0, 0))) (hx : l[g]? = some x) : w.cell? ⟨b, g, none⟩ = some (.int .i64 x) := by
  rw [Lib.cell_of_heap h]; simp [hx]
end














































































































































































































































end Go.Proofs.Ytjcogpalmgcpbaa
/- quadriviumref07.Made: what a round keeps. -/
namespace Go.Proofs.Ytjcogpalmgcpbaa
open Go Go.Proofs Go.RowKit Go.Maps Go.Sort Go.Lib

section
variable {W w w' w'' wr : World} {d n c B ob : Nat} {A : Option Addr} {v v' : Value} {L : List Off} {o : Off}
theorem own_type {w : World} {base k n b : Nat} {e t : TypeId} {v : Value} {xs : List Value} {cs : Array Value} {fz : Nat × Nat} (h : w.ownsRow base e k v n xs) (hb : w.heap[b]? = some (.cells cs t fz)) (ht : t ≠ e) : v.ownBlock ≠ some b := by
  rcases h.2 with ⟨rfl, _⟩ | ⟨g, cap, cur, rfl, _, hg, _⟩
  · simp [Value.ownBlock]
  · intro e'
    have e' : g = b := by simpa [Value.ownBlock] using e'
    subst e'
    rw [hg] at hb
    injection hb with hb
    injection hb with _ hb
    exact ht hb.symm
theorem own_own {w : World} {base base' k k' n n' : Nat} {e e' : TypeId} {v v' : Value} {xs xs' : List Value} (h : w.ownsRow base e k v n xs) (h' : w.ownsRow base' e' k' v' n' xs') (ht : e ≠ e') : v.ownBlock = none ∨ v.ownBlock ≠ v'.ownBlock := by
  rcases h'.2 with ⟨rfl, _⟩ | ⟨g, cap, cur, rfl, _, hg, _⟩
  · cases hq : v.ownBlock with
    | none => exact .inl rfl
    | some q => exact .inr (by simp [Value.ownBlock])
  · exact .inr (own_type h hg (Ne.symm ht))
/-- Who owns a block. -/
def Mine (v : Value) (L : List Off) (q : Nat) : Prop := v.ownBlock = some q ∨ ∃ o ∈ L, o.sv.ownBlock = some q ∨ o.nv.ownBlock = some q






theorem kept_if {w w' : World} {base k n : Nat} {e : TypeId} {v : Value} {xs : List Value} {row : Option Nat} (h : w.ownsRow base e k v n xs) (hg : w.grownBy w' row) (hm : ∀ q, row = some q → v.ownBlock ≠ some q) : w'.ownsRow base e k v n xs := by
  refine h.kept hg ?_
  cases hr : row with
  | none => cases hv : v.ownBlock <;> simp
  | some q => exact .inr (hm q hr)

































































































end
/-- A right offer that was made. -/
structure GoodO (o : Off) : Prop where
  code : o.code ∈ codesL
  c0 : 0 ≤ o.credits
  c1 : o.credits ≤ 20
  p0 : 0 ≤ o.places
  p1 : o.places ≤ 200
  sl : o.slots.length ≤ 4
  nd : o.needs.length ≤ 2
/-- A catalog that was made of the first k codes. -/
def GoodL (k : Nat) (L : List Off) : Prop := (∀ o ∈ L, GoodO o) ∧ (L.map Off.code).Sublist (codesL.take k)
theorem GoodL.skip {k : Nat} {L : List Off} (h : GoodL k L) : GoodL (k + 1) L := ⟨h.1, h.2.trans (by rw [List.take_add_one]; exact List.sublist_append_left _ _)⟩
theorem GoodL.put {k : Nat} {L : List Off} {o : Off} (h : GoodL k L) (ho : GoodO o) (hc : codesL[k]? = some o.code) : GoodL (k + 1) (L ++ [o]) := by
  refine ⟨fun x hx => ?_, ?_⟩
  · rw [List.mem_append, List.mem_singleton] at hx
    rcases hx with hx | rfl
    · exact h.1 x hx
    · exact ho
  · rw [take_one hc, List.map_append]
    exact h.2.append (List.Sublist.refl _)
theorem GoodL.len {k : Nat} {L : List Off} (h : GoodL k L) : L.length ≤ 6 := by
  have := h.2.length_le
  simp only [List.length_map, List.length_take] at this
  have : codesL.length = 6 := rfl
  omega
theorem intT : RowT Try.prog encI 1 3 26 where
  len _ := rfl
  one s u hu := by simp [encI] at hu; subst hu; rfl
  pos := by decide
  und := Try.underlying26
  info := by
    obtain ⟨i0, hi, h1, h2, h3⟩ := info_parts (show (Try.prog.info? 3).map (fun i => (i.zero, i.size, i.bytes)) = some (some (.int .i64 0), 1, 8) by kernel_rfl)
    exact ⟨i0, _, hi, h1, h2, rfl, by omega⟩
theorem strT : RowT Try.prog encT 1 9 27 where
  len _ := rfl
  one s u hu := by simp [encT] at hu; subst hu; rfl
  pos := by decide
  und := Try.underlying27
  info := by
    obtain ⟨i0, hi, h1, h2, h3⟩ := info_parts (show (Try.prog.info? 9).map (fun i => (i.zero, i.size, i.bytes)) = some (some (.string ⟨#[]⟩), 1, 16) by kernel_rfl)
    exact ⟨i0, _, hi, h1, h2, rfl, by omega⟩
theorem offT : RowT Try.prog Off.cells 5 29 30 where
  len _ := rfl
  one s u hu := by simp [Off.cells] at hu; rcases hu with rfl | rfl | rfl | rfl | rfl <;> rfl
  pos := by decide
  und := Try.underlying30
  info := by
    obtain ⟨i0, hi, h1, h2, h3⟩ := info_parts (show (Try.prog.info? 29).map (fun i => (i.zero, i.size, i.bytes)) = some (some (.agg #[.string ⟨#[]⟩, .int .i64 0, .int .i64 0, .slice none 0 0, .slice none 0 0]), 5, 80) by kernel_rfl)
    exact ⟨i0, _, hi, h1, h2, rfl, by omega⟩
end Go.Proofs.Ytjcogpalmgcpbaa
/- quadriviumref07.Made: what a course requires is put on. -/
namespace Go.Proofs.Ytjcogpalmgcpbaa
open Go Go.Proofs Go.RowKit Go.Maps Go.Sort Go.Lib






section
variable {W w w' : World} {B d n c k ob gp op : Nat} {A : Option Addr} {v u : Value} {L : List Off} {o : Off} {cd : ByteArray}


def OneT (w : World) (cd : ByteArray) (u : Value) : Prop := ∃ b, u = .slice (some ⟨b, 0, none⟩) 1 1 ∧ RowIn encT w (.slice (some ⟨b, 0, none⟩) 1 1) [cd]





end












































































































end Go.Proofs.Ytjcogpalmgcpbaa
namespace Go.Proofs.Ytjcogpalmgcpbaa
open Go Go.Proofs Go.RowKit Go.Maps Go.Sort Go.Lib



def Made07Post (w : World) (x : Ending) (w' : World) : Prop := ∃ v L, x = .returned v ∧ RowIn Off.cells w' v L ∧ (∀ o ∈ L, OffOk w' o) ∧ GoodL 6 L ∧ RowKit.Below w.heap.size w w'
section
variable {W w w' : World} {B d n c k ob : Nat} {A : Option Addr} {v : Value} {L : List Off} {o : Off}

theorem own_last {w : World} {base k : Nat} {e : TypeId} {p : Option Addr} {cp : Nat} {l : List Int} {x : Int} (h : w.ownsRow base e 1 (.slice p (l.length + 1) cp) (l.length + 1) (flatE encI (l ++ [x]))) (_hk : k = l.length) : ∃ g, p = some ⟨g, 0, none⟩ ∧ w.cell? ⟨g, k, none⟩ = some (.int .i64 x) ∧ l.length + 1 ≤ cp := by
  subst _hk
  rcases h.2 with ⟨_, h0⟩ | ⟨g, cap, cur, hv, _, hg, h2, _, _, h5⟩
  · omega
  · injection hv with e1 e2 e3
    subst e1; subst e3
    refine ⟨g, rfl, ?_, h2⟩
    have hl : (flatE encI (l ++ [x])).length = l.length + 1 := by rw [flatE_len (k := 1) (fun _ => rfl)]; simp
    have hx : (flatE encI (l ++ [x]))[l.length]? = some (.int .i64 x) := by
      have := flatE_at (enc := encI) (k := 1) (fun _ => rfl) (L := l ++ [x]) (i := l.length) (j := 0) (x := x) (u := .int .i64 x) (by simp) rfl
      simpa using this
    rw [Lib.cell_of_heap hg]
    rw [← h5, List.getElem?_take] at hx
    split at hx
    · simpa using hx
    · cases hx
end























































































































































































































end Go.Proofs.Ytjcogpalmgcpbaa
