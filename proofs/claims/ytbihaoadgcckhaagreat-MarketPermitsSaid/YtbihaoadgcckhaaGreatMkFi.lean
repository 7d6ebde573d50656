/- course.clone and course.Find. -/
import Derived.Test.YtbihaoadgcckhaaGreatMkSt
import Derived.Test.YtbihaoadgcckhaaGreatMkFt
import Derived.Test.YtbihaoadgcckhaaGreatShelf
import Derived.Test.YtbihaoadgcckhaaGreatWPar
import Derived.BigRegion
namespace Go.Proofs.YtbihaoadgcckhaaGreat
open Go Go.Proofs Go.RowKit Go.Maps Go.Sort Go.Lib
attribute [local go_sem] Off.cells

theorem flatI : ∀ L : List Int, flatE encI L = L.map (Value.int .i64)
  | [] => rfl
  | n :: L => by rw [show flatE encI (n :: L) = encI n ++ flatE encI L from rfl, flatI L]; rfl
theorem flatT : ∀ L : List ByteArray, flatE encT L = L.map Value.string
  | [] => rfl
  | n :: L => by rw [show flatE encT (n :: L) = encT n ++ flatE encT L from rfl, flatT L]; rfl
theorem cloneI_any (p : Option Addr) (c : Nat) (L : List Int) (w : World) (h : RowIn encI w (.slice p L.length c) L) (hl : L.length ≤ 1000000000000) :
    Calls Tryz.prog 64 #[.slice p L.length c] w fun e w' => ∃ p' c', e = .returned (.slice p' L.length c') ∧ RowIn encI w' (.slice p' L.length c') L ∧ (∀ a, p' = some a → w.heap.size ≤ a.block) ∧ RowKit.Below w.heap.size w w' := by
  obtain ⟨q, c2, hv, hc, hz, hr⟩ := h
  injection hv with e1 _ e3
  subst e1; subst e3
  have fin : ∀ (v' : Value) (n : Nat) (xs : List Value) (w' : World), n = L.length → xs = flatE encI L → w'.ownsRow w.heap.size 3 1 v' n xs → RowKit.Below w.heap.size w w' → ∃ p' c', Ending.returned v' = .returned (.slice p' L.length c') ∧ RowIn encI w' (.slice p' L.length c') L ∧ (∀ a, p' = some a → w.heap.size ≤ a.block) ∧ RowKit.Below w.heap.size w w' := fun v' n xs w' hn hx ho hb => by
    subst hn; subst hx
    have hin := rowIn_own (k := 1) (fun _ => rfl) (by omega) ho
    obtain ⟨p', c', rfl, _⟩ := hin.form
    exact ⟨p', c', rfl, hin, fun a ha => (ho.lt a.block (by rw [ha]; rfl)).1, hb⟩
  rcases p with _ | ad
  · obtain rfl := hz rfl
    obtain rfl : L = [] := List.eq_nil_of_length_eq_zero (by omega)
    refine (Tryz.slices_Clone_int_nil 0 0 w).mono ?_
    rintro _ w' ⟨rfl, rfl⟩
    exact ⟨none, 0, rfl, RowIn.nil _ _, fun a ha => (by cases ha), Below.refl _ _⟩
  · rcases Nat.eq_zero_or_pos L.length with h0 | h0
    · obtain rfl : L = [] := List.eq_nil_of_length_eq_zero h0
      refine (Tryz.slices_Clone_int_zero ad c w).mono ?_
      rintro _ w' ⟨v', rfl, ho, _, hb⟩
      exact fin v' 0 [] w' rfl rfl ho hb
    · obtain ⟨b, o, hp, _, hx⟩ := hr h0
      obtain rfl := Option.some.inj hp
      refine (Tryz.slices_Clone_int b o L.length c L w (Nat.le_refl _) (by omega) fun j hj => hx j _ ?_).mono ?_
      · rw [flatI, List.getElem?_map, List.getElem?_eq_getElem hj, Option.map_some, List.getD_eq_getElem?_getD, List.getElem?_eq_getElem hj]; rfl
      rintro _ w' ⟨v', rfl, ho, _, hb⟩
      exact fin v' _ _ w' rfl (by rw [List.take_length, flatI]) ho hb
theorem cloneT_any (p : Option Addr) (c : Nat) (L : List ByteArray) (w : World) (h : RowIn encT w (.slice p L.length c) L) (hl : L.length ≤ 1000000000000) :
    Calls Tryz.prog 65 #[.slice p L.length c] w fun e w' => ∃ p' c', e = .returned (.slice p' L.length c') ∧ RowIn encT w' (.slice p' L.length c') L ∧ (∀ a, p' = some a → w.heap.size ≤ a.block) ∧ RowKit.Below w.heap.size w w' := by
  obtain ⟨q, c2, hv, hc, hz, hr⟩ := h
  injection hv with e1 _ e3
  subst e1; subst e3
  have fin : ∀ (v' : Value) (n : Nat) (xs : List Value) (w' : World), n = L.length → xs = flatE encT L → w'.ownsRow w.heap.size 9 1 v' n xs → RowKit.Below w.heap.size w w' → ∃ p' c', Ending.returned v' = .returned (.slice p' L.length c') ∧ RowIn encT w' (.slice p' L.length c') L ∧ (∀ a, p' = some a → w.heap.size ≤ a.block) ∧ RowKit.Below w.heap.size w w' := fun v' n xs w' hn hx ho hb => by
    subst hn; subst hx
    have hin := rowIn_own (k := 1) (fun _ => rfl) (by omega) ho
    obtain ⟨p', c', rfl, _⟩ := hin.form
    exact ⟨p', c', rfl, hin, fun a ha => (ho.lt a.block (by rw [ha]; rfl)).1, hb⟩
  rcases p with _ | ad
  · obtain rfl := hz rfl
    obtain rfl : L = [] := List.eq_nil_of_length_eq_zero (by omega)
    refine (Tryz.slices_Clone_string_nil 0 0 w).mono ?_
    rintro _ w' ⟨rfl, rfl⟩
    exact ⟨none, 0, rfl, RowIn.nil _ _, fun a ha => (by cases ha), Below.refl _ _⟩
  · rcases Nat.eq_zero_or_pos L.length with h0 | h0
    · obtain rfl : L = [] := List.eq_nil_of_length_eq_zero h0
      refine (Tryz.slices_Clone_string_zero ad c w).mono ?_
      rintro _ w' ⟨v', rfl, ho, _, hb⟩
      exact fin v' 0 [] w' rfl rfl ho hb
    · obtain ⟨b, o, hp, _, hx⟩ := hr h0
      obtain rfl := Option.some.inj hp
      refine (Tryz.slices_Clone_string b o L.length c L w (Nat.le_refl _) (by omega) fun j hj => hx j _ ?_).mono ?_
      · rw [flatT, List.getElem?_map, List.getElem?_eq_getElem hj, Option.map_some, List.getD_eq_getElem?_getD, List.getElem?_eq_getElem hj]; rfl
      rintro _ w' ⟨v', rfl, ho, _, hb⟩
      exact fin v' _ _ w' rfl (by rw [List.take_length, flatT]) ho hb
/-- Equal but for where the lists lie. -/
structure SameOff (o' o : Off) : Prop where
  code : o'.code = o.code
  credits : o'.credits = o.credits
  places : o'.places = o.places
  slots : o'.slots = o.slots
  needs : o'.needs = o.needs
theorem findc_any (o : Off) (c : ByteArray) (b : Nat) (w : World) (hb : b < w.heap.size) (hc : w.cell? ⟨b, 0, none⟩ = some (.string c)) :
    Calls Tryz.prog 41 #[.agg #[.string o.code, .int .i64 o.credits, .int .i64 o.places, .slice o.sp o.slots.length o.sc, .slice o.np o.needs.length o.nc], .pointer (some ⟨b, 0, none⟩)] w fun e w' => e = .returned (.bool (decide (o.code.toList = c.toList))) ∧ RowKit.Below w.heap.size w w' := by
  have hx := below_alloc1 w (.cells #[.string o.code, .int .i64 o.credits, .int .i64 o.places, .slice o.sp o.slots.length o.sc, .slice o.np o.needs.length o.nc] 52)
  have hc1 : (w.alloc (.cells #[.string o.code, .int .i64 o.credits, .int .i64 o.places, .slice o.sp o.slots.length o.sc, .slice o.np o.needs.length o.nc] 52)).cell? ⟨b, 0, none⟩ = some (.string c) := (hx.cell (p := ⟨b, 0, none⟩) hb).trans hc
  have hj : ∀ j, (w.alloc (.cells #[.string o.code, .int .i64 o.credits, .int .i64 o.places, .slice o.sp o.slots.length o.sc, .slice o.np o.needs.length o.nc] 52)).cell? ⟨w.heap.size, j, none⟩ = (#[.string o.code, .int .i64 o.credits, .int .i64 o.places, .slice o.sp o.slots.length o.sc, .slice o.np o.needs.length o.nc] : Array Value)[j]? := fun j => Lib.cell_of_heap (heap_alloc_new w _) j
  have hj0 := hj 0
  go_enter Tryz.func41, Tryz.ntmps41
  go_wp2_with fail
  go_ret
  exact ⟨ret_bool (by rw [Bool.eq_iff_iff, beq_iff_eq, decide_eq_true_eq]), hx⟩
/-- Where an offer stands. -/
def IdxO (L : List Off) (c : ByteArray) (k : Int) : Prop := (k = -1 ∧ findO L c = none) ∨ ∃ (j : Nat) (o : Off), k = j ∧ L[j]? = some o ∧ findO L c = some o
set_option maxHeartbeats 1000000 in
set_option maxRecDepth 100000 in
theorem indexO_any (v : Value) (L : List Off) (c : ByteArray) (bx : Nat) (w : World) (h : RowIn Off.cells w v L) (hl : L.length ≤ 1000000) (hb : bx < w.heap.size) (hc : w.cell? ⟨bx, 0, none⟩ = some (.string c)) :
    Calls Tryz.prog 40 #[v, .func (.func 41) #[] #[.pointer (some ⟨bx, 0, none⟩)]] w fun e w' => (∃ k : Int, e = .returned (.int .i64 k) ∧ IdxO L c k) ∧ RowKit.Below w.heap.size w w' := by
  obtain ⟨q, cp, rfl, _⟩ := h.form
  have H := Lib.hid h
  clear h
  go_enter Tryz.func40, Tryz.ntmps40
  go_wp2_with fail
  go_loopw [8] (fun i wr => ∃ k : Nat, k ≤ L.length ∧ i = .int .i64 k ∧ Hid (findO (L.take k) c = none) ∧ RowKit.Below w.heap.size w wr) (fun i _ => L.length - (RowKit.intOf i).toNat)
  case atStart => exact ⟨0, Nat.zero_le _, rfl, Lib.hid rfl, Below.refl _ _⟩
  case round =>
    obtain ⟨k, hk, rfl, HK, hbr⟩ := hrel
    by_cases hlt : k < L.length
    · obtain ⟨b, o, c', hv, _, hbl, hx⟩ := H.out.at_ (k := 5) (fun _ => rfl) (by omega)
      have e1 := (Value.slice.inj hv).1
      subst e1
      have hz := List.getElem?_eq_getElem hlt
      have hat := hx k _ hz
      have HZ := Lib.hid hz
      have HN := Lib.hid (take_one hz)
      generalize L[k] = z at hz hat HN HZ
      have cp := findc_any z c bx wr (Nat.lt_of_lt_of_le hb hbr.size) ((hbr.cell (p := ⟨bx, 0, none⟩) hb).trans hc)
      have h0 : wr.cell? ⟨b, o + k * 5, none⟩ = some (.string z.code) := by rw [hbr.cell (p := ⟨b, o + k * 5, none⟩) hbl]; exact hat 0 _ rfl
      have h1 : wr.cell? ⟨b, o + k * 5 + 1, none⟩ = some (.int .i64 z.credits) := by rw [hbr.cell (p := ⟨b, o + k * 5 + 1, none⟩) hbl]; exact hat 1 _ rfl
      have h2 : wr.cell? ⟨b, o + k * 5 + 2, none⟩ = some (.int .i64 z.places) := by rw [hbr.cell (p := ⟨b, o + k * 5 + 2, none⟩) hbl]; exact hat 2 _ rfl
      have h3 : wr.cell? ⟨b, o + k * 5 + 3, none⟩ = some (.slice z.sp z.slots.length z.sc) := by rw [hbr.cell (p := ⟨b, o + k * 5 + 3, none⟩) hbl]; exact hat 3 _ rfl
      have h4 : wr.cell? ⟨b, o + k * 5 + 4, none⟩ = some (.slice z.np z.needs.length z.nc) := by rw [hbr.cell (p := ⟨b, o + k * 5 + 4, none⟩) hbl]; exact hat 4 _ rfl
      obtain ⟨G, hG⟩ : ∃ G, decide (z.code.toList = c.toList) = G := ⟨_, rfl⟩
      have HG := Lib.hid hG
      rw [hG] at cp
      clear hv hx hz hat hG
      go_wp2_with fail
      refine cp.mono ?_
      rintro _ w1 ⟨rfl, hb1⟩
      have hb2 := below_next hbr hb1
      cases G
      · go_wp2_with fail
        go_roundw
        case rel => exact ⟨k + 1, by omega, by go_num, Lib.hid (by rw [HN.out]; unfold findO; rw [List.find?_append, show (L.take k).find? _ = none from HK.out]; simp [HG.out]), hb2⟩
        case measure => simp [RowKit.intOf]; omega
      · go_wp2_with fail
        go_ret
        refine ⟨⟨k, rfl, .inr ⟨k, z, rfl, HZ.out, ?_⟩⟩, hb2⟩
        have e : L = L.take k ++ z :: L.drop (k + 1) := by
          obtain ⟨hk1, hz1⟩ := List.getElem?_eq_some_iff.1 HZ.out
          rw [← hz1, List.getElem_cons_drop, List.take_append_drop]
        rw [e]
        unfold findO
        rw [List.find?_append, show (L.take k).find? _ = none from HK.out]
        simp [HG.out]
    · obtain rfl : k = L.length := by omega
      have hk2 := HK.out
      rw [List.take_length] at hk2
      go_wp2_with fail
      go_ret
      exact ⟨⟨-1, rfl, .inl ⟨rfl, hk2⟩⟩, hbr⟩
end Go.Proofs.YtbihaoadgcckhaaGreat
