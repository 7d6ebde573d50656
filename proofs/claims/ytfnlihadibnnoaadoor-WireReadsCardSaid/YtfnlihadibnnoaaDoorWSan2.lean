/- sanity of the laws of wire: walked once. -/
import Derived.Test.YtfnlihadibnnoaaDoorWSan
namespace Go.Proofs.YtfnlihadibnnoaaDoor
open Go Go.RowKit Go.Sort Go.Lib

theorem i_0 : wInt 0 = [48, 59] := by decide +kernel
theorem i_m1 : wInt (-1) = [45, 49, 59] := by decide +kernel
theorem i_250 : wInt 250 = [50, 53, 48, 59] := by decide +kernel
theorem t_ab : wText ⟨#[97, 98]⟩ = [50, 58, 97, 98] := by decide +kernel
theorem t_e : wText ⟨#[]⟩ = [48, 58] := by decide +kernel
theorem is_a : wInts [1, -2] = [91, 49, 59, 45, 50, 59, 93] := by decide +kernel
theorem is_e : wInts [] = [91, 93] := by decide +kernel
theorem ts_a : wTexts [⟨#[]⟩, ⟨#[97]⟩] = [91, 48, 58, 49, 58, 97, 93] := by decide +kernel
theorem row2_int (w : World) (a b : Int) (ha : Fits a) (hb : Fits b) : IntsAt (w.alloc (.cells #[.int .i64 a, .int .i64 b] 3)) w.heap.size 0 [a, b] := by
  intro k hk
  simp only [List.length_cons, List.length_nil] at hk
  obtain rfl | rfl : k = 0 ∨ k = 1 := by omega
  · exact ⟨Lib.cell_of_heap (heap_alloc_new w _) 0, ha⟩
  · exact ⟨Lib.cell_of_heap (heap_alloc_new w _) 1, hb⟩
theorem row2_txt (w : World) (a b : ByteArray) (ha : a.size ≤ 1000000) (hb : b.size ≤ 1000000) : TxtsAt (w.alloc (.cells #[.string a, .string b] 9)) w.heap.size 0 [a, b] := by
  intro k hk
  simp only [List.length_cons, List.length_nil] at hk
  obtain rfl | rfl : k = 0 ∨ k = 1 := by omega
  · exact ⟨Lib.cell_of_heap (heap_alloc_new w _) 0, ha⟩
  · exact ⟨Lib.cell_of_heap (heap_alloc_new w _) 1, hb⟩
theorem addr_at (g k : Nat) : (⟨g, 0, none⟩ : Addr).add k = ⟨g, k, none⟩ := by unfold Addr.add; split <;> simp_all
theorem p_a : listP intP [91, 49, 59, 45, 50, 59, 93, 51, 59] = some ([1, -2], [51, 59]) := by decide +kernel
theorem p_b : numP [51, 59] 59 = some (3, []) := by decide +kernel
theorem p_c : numP [] 59 = none := by decide +kernel
theorem decN_of {s : List UInt8} (a : intP s = none) (b : txtP s = none) (c : intsP s = none) (d : txtsP s = none) : ∀ k, k ≤ 3 → decN k s := by
  intro k hk
  obtain rfl | rfl | rfl | rfl : k = 0 ∨ k = 1 ∨ k = 2 ∨ k = 3 := by omega
  · exact a
  · exact b
  · exact c
  · exact d
theorem m_1 : ∀ k, k ≤ 3 → decN k [48, 49, 59] := decN_of (by decide +kernel) (by decide +kernel) (by decide +kernel) (by decide +kernel)
theorem m_2 : ∀ k, k ≤ 3 → decN k [43, 49, 59] := decN_of (by decide +kernel) (by decide +kernel) (by decide +kernel) (by decide +kernel)
theorem m_3 : ∀ k, k ≤ 3 → decN k [45, 48, 59] := decN_of (by decide +kernel) (by decide +kernel) (by decide +kernel) (by decide +kernel)
theorem m_4 : ∀ k, k ≤ 3 → decN k [49] := decN_of (by decide +kernel) (by decide +kernel) (by decide +kernel) (by decide +kernel)
theorem m_5 : ∀ k, k ≤ 3 → decN k [51, 58, 97, 98] := decN_of (by decide +kernel) (by decide +kernel) (by decide +kernel) (by decide +kernel)
/-- A row of the call's own, as a value that is a row. -/
theorem intsV_own {w : World} {base : Nat} {v : Value} {l : List Int} (h : w.ownsRow base 3 1 v l.length (l.map (Value.int .i64))) (hf : ∀ x ∈ l, Fits x) : IntsV w v l := by
  rcases h.2 with ⟨rfl, h0⟩ | ⟨g, cap, cur, rfl, _, hg, _⟩
  · obtain rfl : l = [] := List.eq_nil_of_length_eq_zero h0
    exact ⟨none, 0, rfl, fun h => absurd rfl h⟩
  · refine ⟨_, cap, rfl, fun _ => ⟨g, 0, rfl, fun k hk => ⟨?_, ?_⟩⟩⟩
    · have := h.cells (g := g) rfl k (.int .i64 (l.getD k 0)) (by simp [List.getD_eq_getElem?_getD, List.getElem?_eq_getElem hk])
      rw [addr_at] at this
      simpa using this
    · have : l.getD k 0 ∈ l := by rw [List.getD_eq_getElem?_getD, List.getElem?_eq_getElem hk]; exact List.getElem_mem hk
      exact hf _ this
theorem txtsV_own {w : World} {base : Nat} {v : Value} {l : List ByteArray} (h : w.ownsRow base 9 1 v l.length (l.map Value.string)) (hf : ∀ x ∈ l, x.size ≤ 1000000) : TextsV w v l := by
  rcases h.2 with ⟨rfl, h0⟩ | ⟨g, cap, cur, rfl, _, hg, _⟩
  · obtain rfl : l = [] := List.eq_nil_of_length_eq_zero h0
    exact ⟨none, 0, rfl, fun h => absurd rfl h⟩
  · refine ⟨_, cap, rfl, fun _ => ⟨g, 0, rfl, fun k hk => ⟨?_, ?_⟩⟩⟩
    · have := h.cells (g := g) rfl k (.string (l.getD k ⟨#[]⟩)) (by simp [List.getD_eq_getElem?_getD, List.getElem?_eq_getElem hk])
      rw [addr_at] at this
      simpa using this
    · have : l.getD k ⟨#[]⟩ ∈ l := by rw [List.getD_eq_getElem?_getD, List.getElem?_eq_getElem hk]; exact List.getElem_mem hk
      exact hf _ this
theorem own_but {w w' : World} {base p n : Nat} {el : TypeId} {v : Value} {xs : List Value} (h : w.ownsRow base el 1 v n xs) (hB : But p w w') (hp : p < base) : w'.ownsRow base el 1 v n xs :=
  h.kept hB.grown (by
    cases hv : v.ownBlock with
    | none => exact .inl rfl
    | some g => exact .inr (fun e => by injection e with e; have := (h.lt g hv).1; omega))
set_option maxHeartbeats 2000000 in
set_option maxRecDepth 100000 in
theorem sanity_any (w : World) (hr : Ready w) :
    Calls Tryd.prog 10 #[] w fun e w' => e = .returned (.bool true) ∧ RowKit.Below w.heap.size w w' := by
  have c0 := fun w ht => wireInt_any 0 w (by decide) (by decide) ht
  have c1 := fun w ht => wireInt_any (-1) w (by decide) (by decide) ht
  have c2 := fun w ht => wireInt_any 250 w (by decide) (by decide) ht
  have c3 := fun w ht => wireText_any ⟨#[97, 98]⟩ w (by decide) ht
  have c4 := fun w ht => wireText_any ⟨#[]⟩ w (by decide) ht
  rw [i_0] at c0
  rw [i_m1] at c1
  rw [i_250] at c2
  rw [t_ab] at c3
  rw [t_e] at c4
  go_enter Tryd.func10, Tryd.ntmps10
  go_wp2_with fail
  refine (c0 w hr.sane.1).mono ?_
  rintro x w1 ⟨rfl, hb⟩
  have hB := hb
  replace hr := hr.below hb
  clear hb c0
  go_wp2_with fail
  refine (c1 w1 hr.sane.1).mono ?_
  rintro x w2 ⟨rfl, hb⟩
  replace hB := below_next hB hb
  replace hr := hr.below hb
  clear hb c1
  go_wp2_with fail
  refine (c2 w2 hr.sane.1).mono ?_
  rintro x w3 ⟨rfl, hb⟩
  replace hB := below_next hB hb
  replace hr := hr.below hb
  clear hb c2
  go_wp2_with fail
  refine (c3 w3 hr.sane.1).mono ?_
  rintro x w4 ⟨rfl, hb⟩
  replace hB := below_next hB hb
  replace hr := hr.below hb
  clear hb c3
  go_wp2_with fail
  refine (c4 w4 hr.sane.1).mono ?_
  rintro x w5 ⟨rfl, hb⟩
  replace hB := below_next hB hb
  replace hr := hr.below hb
  clear hb c4
  go_wp2_with fail
  have c5 := wireInts_row w5.heap.size 0 2 [1, -2] (by decide) _ (row2_int w5 1 (-2) (by unfold Fits; decide) (by unfold Fits; decide)) (hr.alloc _).sane.1
  rw [is_a] at c5
  refine c5.mono ?_
  rintro x w6 ⟨rfl, hb⟩
  replace hB := mb1 hB hb
  replace hr := (hr.alloc _).below hb
  clear hb c5
  have c6 := wireInts_nil w6
  rw [is_e] at c6
  go_wp2_with fail
  refine c6.mono ?_
  rintro x w7 ⟨rfl, hb⟩
  replace hB := below_next hB hb
  replace hr := hr.below hb
  clear hb c6
  go_wp2_with fail
  have c7 := wireTexts_row w7.heap.size 0 2 [⟨#[]⟩, ⟨#[97]⟩] (by decide) _ (row2_txt w7 ⟨#[]⟩ ⟨#[97]⟩ (by decide) (by decide)) (hr.alloc _).sane.1
  rw [ts_a] at c7
  refine c7.mono ?_
  rintro x w8 ⟨rfl, hb⟩
  replace hB := mb1 hB hb
  replace hr := (hr.alloc _).below hb
  clear hb c7
  go_wp2_with fail
  refine (new_any _ w8).mono ?_
  rintro x w9 ⟨p, rfl, hp, hR, hb⟩
  have hP := hr.past hp
  have hps : w.heap.size ≤ p := Nat.le_trans hB.size hp
  replace hB := below_next hB hb
  replace hr := hr.below hb
  clear hb hp
  go_wp2_with fail
  have c8 := rdInts_any p hP [91, 49, 59, 45, 50, 59, 93, 51, 59] (by decide) false w9 hR hr.sane hr.errs
  rw [if_neg (by decide), p_a] at c8
  unfold ReadsL at c8
  dsimp only at c8
  refine c8.mono ?_
  rintro x w10 ⟨v, rfl, hv, hR2, hb⟩
  have hs9 := hB.size
  replace hB := hB.trans (hb.below hps hB.size)
  replace hr := hr.but hb hP
  have hpl := hR.lt
  clear hb c8 hR
  have cl := left_any p _ _ _ hR2
  go_wp2_with fail
  refine cl.mono ?_
  rintro x _ ⟨rfl, rfl⟩
  clear cl
  have c9 := rdInt_any p hP _ (by decide) false w10 hR2 hr.sane hr.errs
  rw [if_neg (by decide), show numP (⟨[51, 59].toArray⟩ : ByteArray).data.toList 59 = some (3, []) from p_b] at c9
  unfold Reads at c9
  dsimp only at c9
  go_wp2_with fail
  refine c9.mono ?_
  rintro x w11 ⟨rfl, hR3, hb⟩
  have hs10 := hB.size
  have hV := intsV_own (l := [1, -2]) (own_but hv hb hpl) (by simp [Fits])
  replace hB := hB.trans (hb.below hps hs10)
  replace hr := hr.but hb hP
  clear hb c9 hR2 hv
  go_wp2_with fail
  have ca := sameInts_any v (.slice (some ⟨w11.heap.size, 0, none⟩) 2 2) [1, -2] [1, -2] (by decide) _ (hV.below (below_alloc1 w11 (.cells #[.int .i64 1, .int .i64 (-2)] 3))) ⟨_, 2, rfl, fun _ => ⟨_, 0, rfl, row2_int w11 1 (-2) (by unfold Fits; decide) (by unfold Fits; decide)⟩⟩ (by decide)
  rw [show decide (([1, -2] : List Int) = [1, -2]) = true by decide] at ca
  refine ca.mono ?_
  rintro x w12 ⟨rfl, hb⟩
  replace hB := mb1 hB hb
  replace hr := (hr.alloc _).below hb
  replace hR3 := (hR3.below (below_alloc1 _ _)).below hb
  clear ca hb hV
  go_wp2_with fail
  have cl := left_any p _ _ _ hR3
  refine cl.mono ?_
  rintro x _ ⟨rfl, rfl⟩
  clear cl
  have cb := bad_any p _ _ _ hR3
  go_wp2_with fail
  refine cb.mono ?_
  rintro x _ ⟨rfl, rfl⟩
  clear cb
  go_wp2_with fail
  have cd := rdInt_any p hP _ (by decide) false w12 hR3 hr.sane hr.errs
  rw [if_neg (by decide), show numP (⟨#[]⟩ : ByteArray).data.toList 59 = none from p_c] at cd
  unfold Reads at cd
  dsimp only at cd
  refine cd.mono ?_
  rintro x w13 ⟨rfl, hR4, hb⟩
  have hs12 := hB.size
  replace hB := hB.trans (hb.below hps hs12)
  replace hr := hr.but hb hP
  clear cd hb hR3
  go_wp2_with fail
  have cb := bad_any p _ _ _ hR4
  refine cb.mono ?_
  rintro x _ ⟨rfl, rfl⟩
  clear cb hR4
  go_wp2_with fail
  refine (malformed_none _ (by decide) m_1 _ hr).mono ?_
  rintro x w14 ⟨rfl, hb⟩
  replace hB := below_next hB hb
  replace hr := hr.below hb
  clear hb
  go_wp2_with fail
  refine (malformed_none _ (by decide) m_2 _ hr).mono ?_
  rintro x w15 ⟨rfl, hb⟩
  replace hB := below_next hB hb
  replace hr := hr.below hb
  clear hb
  go_wp2_with fail
  refine (malformed_none _ (by decide) m_3 _ hr).mono ?_
  rintro x w16 ⟨rfl, hb⟩
  replace hB := below_next hB hb
  replace hr := hr.below hb
  clear hb
  go_wp2_with fail
  refine (malformed_none _ (by decide) m_4 _ hr).mono ?_
  rintro x w17 ⟨rfl, hb⟩
  replace hB := below_next hB hb
  replace hr := hr.below hb
  clear hb
  go_wp2_with fail
  refine (malformed_none _ (by decide) m_5 _ hr).mono ?_
  rintro x w18 ⟨rfl, hb⟩
  replace hB := below_next hB hb
  go_wp2_with fail
  go_ret
  exact ⟨rfl, hB⟩
end Go.Proofs.YtfnlihadibnnoaaDoor
