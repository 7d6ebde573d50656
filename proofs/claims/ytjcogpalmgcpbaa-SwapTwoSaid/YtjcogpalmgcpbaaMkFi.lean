/- course.clone and course.Find. -/
import Derived.Test.YtjcogpalmgcpbaaMkSt
import Derived.Test.YtjcogpalmgcpbaaMkFt
import Derived.Test.YtjcogpalmgcpbaaShelf
import Derived.Test.YtjcogpalmgcpbaaWPar
import Derived.BigRegion
namespace Go.Proofs.Ytjcogpalmgcpbaa
open Go Go.Proofs Go.RowKit Go.Maps Go.Sort Go.Lib
attribute [local go_sem] Off.cells

theorem flatI : ∀ L : List Int, flatE encI L = L.map (Value.int .i64)
  | [] => rfl
  | n :: L => by rw [show flatE encI (n :: L) = encI n ++ flatE encI L from rfl, flatI L]; rfl
theorem flatT : ∀ L : List ByteArray, flatE encT L = L.map Value.string
  | [] => rfl
  | n :: L => by rw [show flatE encT (n :: L) = encT n ++ flatE encT L from rfl, flatT L]; rfl
theorem cloneI_any (p : Option Addr) (c : Nat) (L : List Int) (w : World) (h : RowIn encI w (.slice p L.length c) L) (hl : L.length ≤ 1000000000000) :
    Calls Try.prog 40 #[.slice p L.length c] w fun e w' => ∃ p' c', e = .returned (.slice p' L.length c') ∧ RowIn encI w' (.slice p' L.length c') L ∧ (∀ a, p' = some a → w.heap.size ≤ a.block) ∧ RowKit.Below w.heap.size w w' := by
  obtain ⟨q, c2, hv, hc, hz, hr⟩ := h
  injection hv with e1 _ e3
  subst e1; subst e3
  have fin : ∀ (v' : Value) (n : Nat) (xs : List Value) (w' : World), n = L.length → xs = flatE encI L → w'.ownsRow w.heap.size 3 1 v' n xs → RowKit.Below w.heap.size w w' → ∃ p' c', Ending.returned v' = .returned (.slice p' L.length c') ∧ RowIn encI w' (.slice p' L.length c') L ∧ (∀ a, p' = some a → w.heap.size ≤ a.block) ∧ RowKit.Below w.heap.size w w' := fun v' n xs w' hn hx ho hb => by
    subst hn; subst hx
    have hin := rowIn_own (k := 1) (fun _ => rfl) (by omega) ho
    obtain ⟨p', c', rfl, _⟩ := hin.form
    exact ⟨p', c', rfl, hin, fun a ha => (ho.lt a.block (by rw [ha]; rfl)).1, hb⟩
  rcases p with _ | ad
  · obtain rfl := hz rfl
    obtain rfl : L = [] := List.eq_nil_of_length_eq_zero (by omega)
    refine (Try.slices_Clone_int_nil 0 0 w).mono ?_
    rintro _ w' ⟨rfl, rfl⟩
    exact ⟨none, 0, rfl, RowIn.nil _ _, fun a ha => (by cases ha), Below.refl _ _⟩
  · rcases Nat.eq_zero_or_pos L.length with h0 | h0
    · obtain rfl : L = [] := List.eq_nil_of_length_eq_zero h0
      refine (Try.slices_Clone_int_zero ad c w).mono ?_
      rintro _ w' ⟨v', rfl, ho, _, hb⟩
      exact fin v' 0 [] w' rfl rfl ho hb
    · obtain ⟨b, o, hp, _, hx⟩ := hr h0
      obtain rfl := Option.some.inj hp
      refine (Try.slices_Clone_int b o L.length c L w (Nat.le_refl _) (by omega) fun j hj => hx j _ ?_).mono ?_
      · rw [flatI, List.getElem?_map, List.getElem?_eq_getElem hj, Option.map_some, List.getD_eq_getElem?_getD, List.getElem?_eq_getElem hj]; rfl
      rintro _ w' ⟨v', rfl, ho, _, hb⟩
      exact fin v' _ _ w' rfl (by rw [List.take_length, flatI]) ho hb



























/-- Equal but for where the lists lie. -/
structure SameOff (o' o : Off) : Prop where
  code : o'.code = o.code
  credits : o'.credits = o.credits
  places : o'.places = o.places
  slots : o'.slots = o.slots
  needs : o'.needs = o.needs










/-- Where an offer stands. -/
def IdxO (L : List Off) (c : ByteArray) (k : Int) : Prop := (k = -1 ∧ findO L c = none) ∨ ∃ (j : Nat) (o : Off), k = j ∧ L[j]? = some o ∧ findO L c = some o

























































end Go.Proofs.Ytjcogpalmgcpbaa
