/- MarketPermits in plain words. -/
import Derived.Test.YtbihaoadgcckhaaGreatMkPl3
import Derived.Test.YtbihaoadgcckhaaGreatMkLf
import Derived.Test.YtbihaoadgcckhaaGreatMkMe
namespace Go.Proofs.YtbihaoadgcckhaaGreat
open Go Go.Proofs Go.RowKit Go.Sort Go.Lib

theorem good_find {k : Nat} {L : List Off} (h : GoodL k L) {o : Off} (ho : o ∈ L) : findO L o.code = some o := by
  have hn : (L.map Off.code).Nodup := (h.2.nodup ((List.take_sublist _ _).nodup (by decide)))
  have h0 : (L.map Off.code).Pairwise fun a b => a ≠ b := hn
  rw [List.pairwise_map] at h0
  unfold findO
  clear h hn
  induction L with
  | nil => cases ho
  | cons x L ih =>
    rw [List.pairwise_cons] at h0
    rcases List.mem_cons.1 ho with rfl | hm
    · simp
    · have hne : ¬ x.code.toList = o.code.toList := by rw [req_ba]; exact h0.1 o hm
      rw [List.find?_cons_of_neg (by simpa using hne)]
      exact ih hm h0.2
theorem good_get {k : Nat} {L : List Off} (h : GoodL k L) {o : Off} (ho : o ∈ L) : getO L o.code = o := by
  unfold getO
  rw [good_find h ho]
  rfl
theorem perm_sum {a b : List Int} (h : a.Perm b) : a.sum = b.sum := by
  induction h with
  | nil => rfl
  | cons x _ ih => simp [ih]
  | swap x y l => simp only [List.sum_cons]; omega
  | trans _ _ h1 h2 => exact h1.trans h2
section
variable {L : List Off} {M : List Seat} {most : Int} {l : List Seat}
theorem pm_left {k : Nat} (h : GoodL k L) {o : Off} (ho : o ∈ L) (W : List Seat) (hs : OkS L M most l) : (takenF l o.code : Int) ≤ o.places ∧ leftP L ⟨l, W⟩ o.code = o.places - (takenF l o.code : Int) := by
  have hg := good_get h ho
  have hp := (h.1 o ho).p0
  have ht := okS_taken (c := o.code) (by rw [hg]; exact hp) hs
  rw [hg] at ht
  refine ⟨ht, ?_⟩
  unfold leftP
  rw [hg]
  dsimp only
  omega
/-- The courses of a student, in whatever order. -/
theorem pm_apart {S : List ByteArray} {st : Int} (hS : S.Perm (codesOf l st)) (hs : OkS L M most l) : S.Pairwise fun a b => a ≠ b ∧ clashO (getO L a) (getO L b) = false :=
  (List.Perm.pairwise_iff (fun {a b} h => ⟨h.1.symm, by rw [clashO_comm]; exact h.2⟩) hS).2 (codes_apart hs st)
theorem pm_two {S : List ByteArray} {st : Int} (hS : S.Perm (codesOf l st)) (hs : OkS L M most l) {i j : Nat} {a b : ByteArray} (hij : i < j) (ha : S[i]? = some a) (hb : S[j]? = some b) : a ≠ b ∧ clashO (getO L b) (getO L a) = false := by
  obtain ⟨h1, rfl⟩ := List.getElem?_eq_some_iff.1 ha
  obtain ⟨h2, rfl⟩ := List.getElem?_eq_some_iff.1 hb
  have := List.pairwise_iff_getElem.1 (pm_apart hS hs) i j h1 h2 hij
  exact ⟨this.1, by rw [clashO_comm]; exact this.2⟩
theorem pm_in {S : List ByteArray} {st : Int} (hS : S.Perm (codesOf l st)) (hs : OkS L M most l) {c : ByteArray} (hc : c ∈ S) : (findO L c).isSome = true ∧ (⟨st, c⟩ : Seat) ∈ M := by
  have h := codes_mem.1 (hS.mem_iff.1 hc)
  exact okS_mem hs h
/-- The credits of the first ones. -/
def credS (L : List Off) (S : List ByteArray) : Int := (S.map fun c => (getO L c).credits).sum
theorem credS_snoc (S : List ByteArray) (c : ByteArray) : credS L (S ++ [c]) = credS L S + (getO L c).credits := by simp [credS]
theorem credS_nonneg (hc : Calm L) (S : List ByteArray) : 0 ≤ credS L S ∧ credS L S ≤ 1000 * S.length := by
  induction S with
  | nil => simp [credS]
  | cons c S ih =>
    have := getO_calm hc c
    have e : credS L (c :: S) = (getO L c).credits + credS L S := rfl
    rw [e, List.length_cons]
    omega
theorem pm_sum {S : List ByteArray} {st : Int} (hc : Calm L) (hS : S.Perm (codesOf l st)) (hs : OkS L M most l) (hl : l.length ≤ 1000) : S = [] ∨ credS L S ≤ most := by
  cases S with
  | nil => exact .inl rfl
  | cons c S =>
    right
    have hm := codes_mem.1 (hS.mem_iff.1 (List.mem_cons_self))
    have e : credS L (c :: S) = sumC L l st := by rw [← codes_sum]; exact perm_sum (hS.map _)
    rw [e]
    exact okS_sum hc st hl hs ⟨_, hm, rfl⟩
theorem pm_len {S : List ByteArray} {st : Int} (hS : S.Perm (codesOf l st)) : S.length ≤ l.length := by
  rw [hS.length_eq]; unfold codesOf; rw [List.length_map]; exact List.length_filter_le _ _
end
/-- .. gives a seat for another one. -/
def givesR (A : List Req) : Bool := A.any fun r => !decide (r.give.size = 0)
theorem gives_none {A : List Req} (h : givesR A = false) : ∀ r ∈ A, r.give.size = 0 := fun r hr => by
  have := (List.any_eq_false.1 h) r hr
  simpa using this
theorem gives_snoc (A : List Req) (r : Req) : givesR (A ++ [r]) = (givesR A || !decide (r.give.size = 0)) := by simp [givesR]
theorem pm_all {L : List Off} {M : List Seat} {most : Int} {A O : List Req} (hO : ∀ r, r ∈ O ↔ r ∈ A) (h : givesR A = false) {r : Req} (hr : r ∈ A) : seatOf r ∈ (dealP L M most O).seats ∨ seatOf r ∈ (dealP L M most O).waits :=
  deal_all O (fun x hx => gives_none h x ((hO x).1 hx)) r ((hO r).2 hr)
end Go.Proofs.YtbihaoadgcckhaaGreat
