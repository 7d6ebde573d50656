/- Arguments of the laws of wire, opened: rows of numbers, texts, bytes, values. -/
import Derived.Test.YtfnlihadibnnoaaDoorWCut
import Derived.Test.YtfnlihadibnnoaaDoorWErr
import Derived.SliceStrings
import Derived.Lib.SmallJoins
namespace Go.Proofs.YtfnlihadibnnoaaDoor
open Go Go.Deep Go.ChangeShapes Go.WideShapes Go.ChangeAt Go.WideElems Go.RowKit Go.Lib

theorem no_path {w : World} {a : Addr} {v : Value} (h : w.cell? a = some v) : ∃ b o, a = ⟨b, o, none⟩ := by
  obtain ⟨b, o, path⟩ := a
  cases path with
  | none => exact ⟨b, o, rfl⟩
  | some q => simp [World.cell?] at h; split at h <;> cases h
theorem add_at (b o k : Nat) : (⟨b, o, none⟩ : Addr).add k = ⟨b, o + k, none⟩ := by unfold Addr.add; split <;> simp_all
theorem add_zero (a : Addr) : a.add 0 = a := by unfold Addr.add; rw [if_pos rfl]
theorem takeD {α : Type} {l : List α} {n k : Nat} (h : k < n) (d : α) : (l.take n).getD k d = l.getD k d := by
  rw [List.getD_eq_getElem?_getD, List.getD_eq_getElem?_getD, List.getElem?_take, if_pos h]
theorem memD {α : Type} {l : List α} {k : Nat} (h : k < l.length) (d : α) : l.getD k d ∈ l := by
  rw [List.getD_eq_getElem?_getD, List.getElem?_eq_getElem h]; exact List.getElem_mem h
theorem wf_fits {n : Int} (h : Lit.wf (.int .i64 n)) : Fits n := by
  simp [Lit.wf, IntKind.min, IntKind.max, IntKind.signed, IntKind.bits] at h
  unfold Fits; omega
/-- A slice of n places: nil, or with room for them. -/
def Shape (v : Value) (n : Nat) : Prop := (v = .slice none 0 0 ∧ n = 0) ∨ ∃ a c, v = .slice (some a) n c ∧ n ≤ c ∧ c ≤ 9223372036854775807
/-- A value that is a row of bytes, or has none. -/
def BytesV (w : World) (v : Value) (l : List Int) : Prop := ∃ base c, v = .slice base l.length c ∧ l.length ≤ 9223372036854775807 ∧ (l ≠ [] → ∃ b o, base = some ⟨b, o, none⟩ ∧ ∀ k, k < l.length → w.cell? ⟨b, o + k, none⟩ = some (.int .u8 (l.getD k 0)) ∧ 0 ≤ l.getD k 0 ∧ l.getD k 0 ≤ 255)
section
variable {H : Type} {enc : TypeId × Value → H} {w : World} {held : Bool} {fuel : Nat} {c : Value} {y : DataW H × List MemPlace}
theorem ints_cell (h : DataW.trod enc Tryd.prog w 0 (fun _ => true) held fuel 22 [c] = some y) : ∃ l, IntsV w c l ∧ Shape c l.length := by
  rcases open_ints Tryd.underlying22 Tryd.underlying3 (by kernel_rfl) h with ⟨hc, hx⟩ | ⟨a, len, cap, zs, hc, _, hl, hm, hz, hx, hcell, hwf⟩
  · simp at hc
    exact ⟨[], ⟨none, 0, hc, fun h => absurd rfl h⟩, .inl ⟨hc, rfl⟩⟩
  · simp at hc
    subst hc
    simp only [if_true] at hz
    have hlen : (zs.take len).length = len := by rw [List.length_take]; omega
    refine ⟨zs.take len, ⟨some a, cap, by rw [hlen], fun hn => ?_⟩, .inr ⟨a, cap, by rw [hlen], by omega, by unfold maxLen at hm; omega⟩⟩
    have h0 : 0 < len := by
      rcases Nat.eq_zero_or_pos len with e | e
      · subst e; exact absurd (by simp) hn
      · exact e
    have hc0 := hcell 0 (by omega)
    rw [add_zero] at hc0
    obtain ⟨b, o, rfl⟩ := no_path hc0
    refine ⟨b, o, rfl, fun k hk => ?_⟩
    rw [hlen] at hk
    have h1 := hcell k (by omega)
    rw [add_at] at h1
    rw [takeD hk]
    exact ⟨h1, wf_fits (hwf _ (memD (by omega) 0))⟩
theorem strs_cell (h : DataW.trod enc Tryd.prog w 0 (fun _ => true) held fuel 23 [c] = some y) : ∃ l, StrsV w c l := by
  rcases open_strings Tryd.underlying23 Tryd.underlying9 (by kernel_rfl) h with ⟨hc, hx⟩ | ⟨a, len, cap, zs, hc, _, hl, hm, hz, hx, hcell, hwf⟩
  · simp at hc
    exact ⟨[], none, 0, hc, by simp, fun h => absurd rfl h⟩
  · simp at hc
    subst hc
    simp only [if_true] at hz
    have hlen : (zs.take len).length = len := by rw [List.length_take]; omega
    refine ⟨zs.take len, some a, cap, by rw [hlen], by unfold maxLen at hm; omega, fun hn => ?_⟩
    have h0 : 0 < len := by
      rcases Nat.eq_zero_or_pos len with e | e
      · subst e; exact absurd (by simp) hn
      · exact e
    have hc0 := hcell 0 (by omega)
    rw [add_zero] at hc0
    obtain ⟨b, o, rfl⟩ := no_path hc0
    refine ⟨b, o, rfl, fun k hk => ?_⟩
    rw [hlen] at hk
    have h1 := hcell k (by omega)
    rw [add_at] at h1
    rw [takeD hk]
    exact ⟨h1, by have := hwf _ (memD (l := zs) (k := k) (by omega) ⟨#[]⟩); unfold maxLen at this; omega⟩
theorem bytes_cell (h : DataW.trod enc Tryd.prog w 0 (fun _ => true) held fuel 31 [c] = some y) : ∃ l, BytesV w c l := by
  rcases open_ints Tryd.underlying31 Tryd.underlying5 (by kernel_rfl) h with ⟨hc, hx⟩ | ⟨a, len, cap, zs, hc, _, hl, hm, hz, hx, hcell, hwf⟩
  · simp at hc
    exact ⟨[], none, 0, hc, by simp, fun h => absurd rfl h⟩
  · simp at hc
    subst hc
    simp only [if_true] at hz
    have hlen : (zs.take len).length = len := by rw [List.length_take]; omega
    refine ⟨zs.take len, some a, cap, by rw [hlen], by unfold maxLen at hm; omega, fun hn => ?_⟩
    have h0 : 0 < len := by
      rcases Nat.eq_zero_or_pos len with e | e
      · subst e; exact absurd (by simp) hn
      · exact e
    have hc0 := hcell 0 (by omega)
    rw [add_zero] at hc0
    obtain ⟨b, o, rfl⟩ := no_path hc0
    refine ⟨b, o, rfl, fun k hk => ?_⟩
    rw [hlen] at hk
    have h1 := hcell k (by omega)
    rw [add_at] at h1
    rw [takeD hk]
    exact ⟨h1, wf_u8 (hwf _ (memD (by omega) 0))⟩
end
/-- A value of the laws: a kind, a number, a text, numbers, texts. -/
structure Val where
  kind : Int
  n : Int
  s : ByteArray
  L : List Int
  T : List ByteArray
/-- Five cells are a value of the laws. -/
def ValAt (w : World) (c0 c1 c2 c3 c4 : Value) (x : Val) : Prop :=
  (c0 = .int .u8 x.kind ∧ c1 = .int .i64 x.n ∧ c2 = .string x.s) ∧ (0 ≤ x.kind ∧ x.kind ≤ 255) ∧ Fits x.n ∧ x.s.size ≤ 9223372036854775807 ∧ (IntsV w c3 x.L ∧ Shape c3 x.L.length) ∧ StrsV w c4 x.T
theorem ValAt.below {w w' : World} {c0 c1 c2 c3 c4 : Value} {x : Val} (h : ValAt w c0 c1 c2 c3 c4 x) (hb : RowKit.Below w.heap.size w w') : ValAt w' c0 c1 c2 c3 c4 x :=
  ⟨h.1, h.2.1, h.2.2.1, h.2.2.2.1, ⟨h.2.2.2.2.1.1.below hb, h.2.2.2.2.1.2⟩, h.2.2.2.2.2.below hb⟩
theorem list5 {α : Type} {l : List α} (h : l.length = 5) : ∃ a b c d e, l = [a, b, c, d, e] := by
  match l, h with
  | [a, b, c, d, e], _ => exact ⟨a, b, c, d, e, rfl⟩
section
variable {H : Type} {enc : TypeId × Value → H} {P : Program} {w : World} {base : Nat} {spare : Nat → Bool} {held : Bool}
theorem trod_struct5 {t : TypeId} {f0 f1 f2 f3 f4 : Field} {fuel : Nat} {cs : List Value} {x : DataW H × List MemPlace} (ht : P.underlying t = some (.struct #[f0, f1, f2, f3, f4])) (h : DataW.trod enc P w base spare held fuel t cs = some x) :
    ∃ y0 y1 y2 y3 y4 n, cs.length = P.cellsOf t ∧ DataW.trod enc P w base spare held n f0.type ((cs.drop f0.offset).take (P.cellsOf f0.type)) = some y0 ∧
      DataW.trod enc P w base spare held n f1.type ((cs.drop f1.offset).take (P.cellsOf f1.type)) = some y1 ∧ DataW.trod enc P w base spare held n f2.type ((cs.drop f2.offset).take (P.cellsOf f2.type)) = some y2 ∧
      DataW.trod enc P w base spare held n f3.type ((cs.drop f3.offset).take (P.cellsOf f3.type)) = some y3 ∧ DataW.trod enc P w base spare held n f4.type ((cs.drop f4.offset).take (P.cellsOf f4.type)) = some y4 := by
  obtain ⟨xs, n, _, rfl, hl, hlen, hf⟩ := DataW.trod_struct ht h
  match xs, hlen with
  | [y0, y1, y2, y3, y4], _ => exact ⟨y0, y1, y2, y3, y4, n, hl, by simpa using hf 0 f0 rfl, by simpa using hf 1 f1 rfl, by simpa using hf 2 f2 rfl, by simpa using hf 3 f3 rfl, by simpa using hf 4 f4 rfl⟩
end
theorem val_info : ∃ f0 f1 f2 f3 f4, Tryd.prog.underlying 45 = some (.struct #[f0, f1, f2, f3, f4]) ∧ (f0.type, f1.type, f2.type, f3.type, f4.type) = (5, 3, 9, 22, 23) ∧ oneCellFields Tryd.prog #[f0, f1, f2, f3, f4] = true :=
  ⟨_, _, _, _, _, Tryd.underlying45, by kernel_rfl, by kernel_rfl⟩
section
variable {H : Type} {enc : TypeId × Value → H} {w : World} {held : Bool} {fuel : Nat}
theorem val_cells {cs : List Value} {y : DataW H × List MemPlace} (h : DataW.trod enc Tryd.prog w 0 (fun _ => true) held fuel 45 cs = some y) : ∃ c0 c1 c2 c3 c4 x, cs = [c0, c1, c2, c3, c4] ∧ ValAt w c0 c1 c2 c3 c4 x := by
  obtain ⟨f0, f1, f2, f3, f4, hu, ht, ho⟩ := val_info
  simp only [Prod.mk.injEq] at ht
  obtain ⟨t0, t1, t2, t3, t4⟩ := ht
  obtain ⟨y0, y1, y2, y3, y4, n, hl, h0, h1, h2, h3, h4⟩ := trod_struct5 hu h
  obtain ⟨o0, k0⟩ := hone_of ho 0 f0 rfl
  obtain ⟨o1, k1⟩ := hone_of ho 1 f1 rfl
  obtain ⟨o2, k2⟩ := hone_of ho 2 f2 rfl
  obtain ⟨o3, k3⟩ := hone_of ho 3 f3 rfl
  obtain ⟨o4, k4⟩ := hone_of ho 4 f4 rfl
  have hcc : Tryd.prog.cellsOf 45 = 5 := by kernel_rfl
  rw [hcc] at hl
  obtain ⟨c0, c1, c2, c3, c4, rfl⟩ := list5 hl
  rw [o0, k0, t0] at h0
  rw [o1, k1, t1] at h1
  rw [o2, k2, t2] at h2
  rw [o3, k3, t3] at h3
  rw [o4, k4, t4] at h4
  obtain ⟨n0, e0, -, w0⟩ := DataW.trod_int Tryd.underlying5 h0
  obtain ⟨n1, e1, -, w1⟩ := DataW.trod_int Tryd.underlying3 h1
  obtain ⟨s2, e2, -, w2⟩ := DataW.trod_string Tryd.underlying9 h2
  obtain ⟨l3, w3⟩ := ints_cell h3
  obtain ⟨l4, w4⟩ := strs_cell h4
  simp at e0 e1 e2
  exact ⟨c0, c1, c2, c3, c4, ⟨n0, n1, s2, l3, l4⟩, rfl, ⟨e0, e1, e2⟩, wf_u8 w0, wf_fits w1, by unfold maxLen at w2; exact by omega, w3, w4⟩
set_option maxRecDepth 100000 in
theorem open_valV {r : Reach} {b0 : Nat} {v : Value} {d : DataW H} {p : List MemPlace} (h : DataW.Trod enc Tryd.prog w 0 (fun _ => true) held 45 v d p) (hv : Value.okWide Tryd.prog w r b0 45 v) :
    ∃ x c3 c4, v = .agg #[.int .u8 x.kind, .int .i64 x.n, .string x.s, c3, c4] ∧ ValAt w (.int .u8 x.kind) (.int .i64 x.n) (.string x.s) c3 c4 x := by
  obtain ⟨cs, rfl, hsz⟩ := okWide_struct Tryd.underlying45 hv
  obtain ⟨fuel, hf⟩ := h
  obtain ⟨c0, c1, c2, c3, c4, x, e, hx⟩ := val_cells hf
  obtain ⟨⟨rfl, rfl, rfl⟩, hr⟩ := id hx
  refine ⟨x, c3, c4, ?_, hx⟩
  simp only [Value.cells] at e
  rw [← e]
theorem open_intsV {v : Value} {d : DataW H} {p : List MemPlace} (h : DataW.Trod enc Tryd.prog w 0 (fun _ => true) held 22 v d p) (hv : ∃ A n c, v = .slice A n c) : ∃ l, IntsV w v l ∧ Shape v l.length := by
  obtain ⟨A, n, c, rfl⟩ := hv
  obtain ⟨fuel, hf⟩ := h
  exact ints_cell (by simpa [Value.cells] using hf)
theorem open_textsV {v : Value} {d : DataW H} {p : List MemPlace} (h : DataW.Trod enc Tryd.prog w 0 (fun _ => true) held 23 v d p) (hv : ∃ A n c, v = .slice A n c) : ∃ l, StrsV w v l := by
  obtain ⟨A, n, c, rfl⟩ := hv
  obtain ⟨fuel, hf⟩ := h
  exact strs_cell (by simpa [Value.cells] using hf)
theorem open_bytesV {v : Value} {d : DataW H} {p : List MemPlace} (h : DataW.Trod enc Tryd.prog w 0 (fun _ => true) held 31 v d p) (hv : ∃ A n c, v = .slice A n c) : ∃ l, BytesV w v l := by
  obtain ⟨A, n, c, rfl⟩ := hv
  obtain ⟨fuel, hf⟩ := h
  exact bytes_cell (by simpa [Value.cells] using hf)
/-- A row of values lies from a place on. -/
def ValsAt (w : World) (b o : Nat) (l : List Val) : Prop := ∀ k (h : k < l.length), ∃ c0 c1 c2 c3 c4, (w.cell? ⟨b, o + k * 5, none⟩ = some c0 ∧ w.cell? ⟨b, o + k * 5 + 1, none⟩ = some c1 ∧ w.cell? ⟨b, o + k * 5 + 2, none⟩ = some c2 ∧ w.cell? ⟨b, o + k * 5 + 3, none⟩ = some c3 ∧ w.cell? ⟨b, o + k * 5 + 4, none⟩ = some c4) ∧ ValAt w c0 c1 c2 c3 c4 l[k]
/-- A value that is a row of values, or has none. -/
def ValsV (w : World) (v : Value) (l : List Val) : Prop := Shape v l.length ∧ ∃ base c, v = .slice base l.length c ∧ (l ≠ [] → ∃ b o, base = some ⟨b, o, none⟩ ∧ ValsAt w b o l)
theorem ValsAt.below {w w' : World} {b o : Nat} {l : List Val} (h : ValsAt w b o l) (hb : RowKit.Below w.heap.size w w') : ValsAt w' b o l := fun k hk => by
  obtain ⟨c0, c1, c2, c3, c4, ⟨h0, h1, h2, h3, h4⟩, hv⟩ := h k hk
  exact ⟨c0, c1, c2, c3, c4, ⟨mv0 hb h0, mv0 hb h1, mv0 hb h2, mv0 hb h3, mv0 hb h4⟩, hv.below hb⟩
theorem rows_val {a : Addr} : ∀ (n : Nat), (∀ i, i < n → ∃ c0 c1 c2 c3 c4 x, w.cells? 0 (a.add (i * 5)) 5 = some [c0, c1, c2, c3, c4] ∧ ValAt w c0 c1 c2 c3 c4 x) → ∃ l : List Val, l.length = n ∧ ∀ k (h : k < l.length), ∃ c0 c1 c2 c3 c4, w.cells? 0 (a.add (k * 5)) 5 = some [c0, c1, c2, c3, c4] ∧ ValAt w c0 c1 c2 c3 c4 l[k]
  | 0, _ => ⟨[], rfl, fun k h => absurd h (by simp)⟩
  | n + 1, h => by
    obtain ⟨l, hl, hr⟩ := rows_val n (fun i hi => h i (by omega))
    obtain ⟨c0, c1, c2, c3, c4, x, hc, hx⟩ := h n (by omega)
    refine ⟨l ++ [x], by simp [hl], fun k hk => ?_⟩
    by_cases hkn : k < l.length
    · obtain ⟨d0, d1, d2, d3, d4, hd, hv⟩ := hr k hkn
      exact ⟨d0, d1, d2, d3, d4, hd, by rw [List.getElem_append_left hkn]; exact hv⟩
    · obtain rfl : k = n := by simp at hk; omega
      exact ⟨c0, c1, c2, c3, c4, hc, by rw [List.getElem_append_right (by omega)]; simpa [hl] using hx⟩
theorem open_valsV {v : Value} {d : DataW H} {p : List MemPlace} (h : DataW.Trod enc Tryd.prog w 0 (fun _ => true) held 43 v d p) (hv : ∃ A n c, v = .slice A n c) : ∃ l, ValsV w v l := by
  obtain ⟨A, n, c, rfl⟩ := hv
  obtain ⟨fuel, hf⟩ := h
  have hcc : Tryd.prog.cellsOf 45 = 5 := by kernel_rfl
  rcases DataW.trod_slice Tryd.underlying43 (by simpa [Value.cells] using hf) with ⟨hc, hx⟩ | ⟨a, len, cap, elems, rest, m, _, hc, -, hb, hl, hm, hlen, hel, -, -⟩
  · simp at hc
    exact ⟨[], .inl ⟨by simp [hc], rfl⟩, none, 0, by simp [hc], fun h => absurd rfl h⟩
  · simp at hc
    obtain ⟨rfl, rfl, rfl⟩ := hc
    rw [hcc] at hel
    obtain ⟨l, hln, hr⟩ := rows_val (w := w) (a := a) n (fun i hi => by
      have h1 := hel i hi
      rw [List.getElem?_eq_getElem (by omega), Option.bind_eq_some_iff] at h1
      obtain ⟨cs, h2, h3⟩ := h1
      obtain ⟨c0, c1, c2, c3, c4, x, rfl, hx⟩ := val_cells h3
      exact ⟨c0, c1, c2, c3, c4, x, h2, hx⟩)
    refine ⟨l, .inr ⟨a, c, by rw [hln], by omega, by unfold maxLen at hm; omega⟩, some a, c, by rw [hln], fun hn => ?_⟩
    have h0 : 0 < l.length := List.length_pos_iff.2 hn
    obtain ⟨d0, d1, d2, d3, d4, hd, -⟩ := hr 0 h0
    rw [Nat.zero_mul, add_zero] at hd
    have hd0 := (World.cells?_some hd).2.2 0 (by omega)
    rw [add_zero] at hd0
    obtain ⟨b, o, rfl⟩ := no_path (v := d0) (by simpa using hd0)
    refine ⟨b, o, rfl, fun k hk => ?_⟩
    obtain ⟨c0, c1, c2, c3, c4, hq, hv⟩ := hr k hk
    rw [add_at] at hq
    have hq2 := (World.cells?_some hq).2.2
    refine ⟨c0, c1, c2, c3, c4, ⟨?_, ?_, ?_, ?_, ?_⟩, hv⟩
    · simpa [add_at] using hq2 0 (by omega)
    · simpa [add_at] using hq2 1 (by omega)
    · simpa [add_at] using hq2 2 (by omega)
    · simpa [add_at] using hq2 3 (by omega)
    · simpa [add_at] using hq2 4 (by omega)
end
end Go.Proofs.YtfnlihadibnnoaaDoor
