/- The market in plain words: seats, offers, what fits, the deal. -/
import Derived.Test.YtjcogpalmgcpbaaRqPl
namespace Go.Proofs.Ytjcogpalmgcpbaa
open Go Go.Proofs Go.RowKit Go.Sort Go.Lib

structure Seat where
  student : Int
  code : ByteArray
def eqSeat (a b : Seat) : Bool := decide (a.student = b.student) && decide (a.code.toList = b.code.toList)
theorem eqSeat_iff (a b : Seat) : eqSeat a b = true ↔ a = b := by
  simp only [eqSeat, Bool.and_eq_true, decide_eq_true_eq, req_ba]
  constructor
  · rintro ⟨h0, h1⟩; cases a; cases b; simp_all
  · rintro rfl; simp
instance : DecidableEq Seat := fun a b => decidable_of_iff _ (eqSeat_iff a b)
theorem eqSeat_dec (a b : Seat) : eqSeat a b = decide (a = b) := by
  rw [Bool.eq_iff_iff, eqSeat_iff, decide_eq_true_eq]
structure Off where
  code : ByteArray
  credits : Int
  places : Int
  sp : Option Addr
  sc : Nat
  np : Option Addr
  nc : Nat
  slots : List Int
  needs : List ByteArray
def zeroO : Off := ⟨⟨#[]⟩, 0, 0, none, 0, none, 0, [], []⟩
def findO (L : List Off) (c : ByteArray) : Option Off := L.find? fun o => decide (o.code.toList = c.toList)
def getO (L : List Off) (c : ByteArray) : Off := (findO L c).getD zeroO
def clashO (a b : Off) : Bool := a.slots.any fun n => decide (n ∈ b.slots)
def addC (L : List Off) (st : Int) (c : Int) (x : Seat) : Int := if x.student = st then IntKind.i64.wrap (c + (getO L x.code).credits) else c
def creditsF (L : List Off) (l : List Seat) (st : Int) (c0 : Int) : Int := l.foldl (addC L st) c0
def takenF (l : List Seat) (c : ByteArray) : Nat := l.countP fun x => decide (x.code.toList = c.toList)
def clashF (L : List Off) (o : Off) (l : List Seat) (st : Int) : Bool := l.any fun x => decide (x.student = st) && clashO o (getO L x.code)
/-- The error of a seat, for seats (0: none). -/
def fitsP (L : List Off) (met : List Seat) (most : Int) (l : List Seat) (s : Seat) : Int :=
  if (findO L s.code).isNone then 5
  else if s ∈ l then 6
  else if s ∉ met then 13
  else if (getO L s.code).places ≤ (takenF l s.code : Int) then 50
  else if clashF L (getO L s.code) l s.student then 51
  else if most < creditsF L l s.student (getO L s.code).credits then 3 else 0
structure Deal where
  seats : List Seat
  waits : List Seat
def seatOf (r : Req) : Seat := ⟨r.student, r.code⟩
def giveOf (r : Req) : Seat := ⟨r.student, r.give⟩
def othersD (l : List Seat) (r : Req) : List Seat := if r.give.size = 0 then l else l.filter fun x => decide (x ≠ giveOf r)
def fineD (l : List Seat) (r : Req) : Bool := decide (r.give.size = 0) || decide (giveOf r ∈ l)
/-- What one request does. -/
def stepD (L : List Off) (met : List Seat) (most : Int) (d : Deal) (r : Req) : Deal :=
  if fineD d.seats r = true ∧ fitsP L met most (othersD d.seats r) (seatOf r) = 0 then ⟨othersD d.seats r ++ [seatOf r], d.waits⟩
  else if seatOf r ∈ d.waits then d else ⟨d.seats, d.waits ++ [seatOf r]⟩
def dealP (L : List Off) (met : List Seat) (most : Int) (O : List Req) : Deal := O.foldl (stepD L met most) ⟨[], []⟩
theorem dealP_snoc (L : List Off) (met : List Seat) (most : Int) (O : List Req) (r : Req) : dealP L met most (O ++ [r]) = stepD L met most (dealP L met most O) r := by
  unfold dealP; rw [List.foldl_append]; rfl

/-- .. comes before another one. -/
def cmpB (a b : Req) : Int := if Lib.compareInt b.priority a.priority = 0 then if Lib.compareInt a.day b.day = 0 then if Lib.compareInt a.server b.server = 0 then Lib.compareInt a.seq b.seq else Lib.compareInt a.server b.server else Lib.compareInt a.day b.day else Lib.compareInt b.priority a.priority
theorem cmpB_ok : CmpOK cmpB := by
  have h : CmpOK (fun a b : Req => Lib.compareInt b.priority a.priority) := ⟨fun _ _ => ci_ok.swap _ _, fun _ _ _ h1 h2 => ci_ok.le _ _ _ h2 h1⟩
  exact h.lex ((ci_ok.on Req.day).lex ((ci_ok.on Req.server).lex (ci_ok.on Req.seq)))
theorem swoB : SWO (ltOf cmpB) where
  irrefl x := by have := cmpB_ok.swap x x; simp [ltOf]; omega
  trans x y z h1 h2 := by
    have a1 := cmpB_ok.swap x y; have a2 := cmpB_ok.swap y z; have a3 := cmpB_ok.swap x z
    have b1 := cmpB_ok.le x y z; have b2 := cmpB_ok.le y z x
    simp only [ltOf, decide_eq_true_eq] at *
    omega
  ntrans x y z h1 h2 := by
    have a1 := cmpB_ok.swap x y; have a2 := cmpB_ok.swap y z; have a3 := cmpB_ok.swap x z
    have b1 := cmpB_ok.le z y x
    simp only [ltOf, decide_eq_false_iff_not] at *
    omega
theorem cmpB_zero {a b : Req} (h : cmpB a b = 0) : numR a = numR b := by
  unfold cmpB at h
  split at h
  · split at h
    · split at h
      · rename_i h3
        rw [ci_zero] at h h3
        unfold numR; rw [h, h3]
      · contradiction
    · contradiction
  · contradiction
/-- O are the requests of A in the order in which they are dealt with. -/
def IsOrd (O A : List Req) : Prop := O.Perm A ∧ O.Pairwise fun a b => cmpB a b < 0
theorem IsOrd.same {O O' A A' : List Req} (h : IsOrd O A) (h' : IsOrd O' A') (e : ∀ r, r ∈ A ↔ r ∈ A') : O = O' :=
  sorted_same (fun a b => cmpB a b < 0) (fun a h => by have := cmpB_ok.swap a a; omega) (fun a b h h2 => by have := cmpB_ok.swap a b; omega) O O' h.2 h'.2
    fun r => (h.1.mem_iff).trans ((e r).trans h'.1.mem_iff.symm)
/-- .. if they are ordered weakly, with numbers of their own. -/
theorem isOrd_of {O A : List Req} (hp : O.Perm A) (hn : A.Pairwise fun a b => numR a ≠ numR b) (hs : O.Pairwise fun a b => cmpB b a < 0 → False) : IsOrd O A := by
  refine ⟨hp, ?_⟩
  have hn' : O.Pairwise fun a b => numR a ≠ numR b := (List.Perm.pairwise_iff (fun {a b} h e => h e.symm) hp).2 hn
  exact (hn'.and hs).imp fun {a b} h => by
    have h0 : cmpB a b ≠ 0 := fun e => h.1 (cmpB_zero e)
    have := cmpB_ok.swap a b
    have h2 : ¬ cmpB b a < 0 := h.2
    omega

/-! ### What fits, taken apart -/
theorem fitsP_zero {L : List Off} {met : List Seat} {most : Int} {l : List Seat} {s : Seat} : fitsP L met most l s = 0 ↔
    (findO L s.code).isSome = true ∧ s ∉ l ∧ s ∈ met ∧ (takenF l s.code : Int) < (getO L s.code).places ∧ clashF L (getO L s.code) l s.student = false ∧ creditsF L l s.student (getO L s.code).credits ≤ most := by
  unfold fitsP
  by_cases h1 : (findO L s.code).isNone = true
  · rw [if_pos h1]
    have : (findO L s.code).isSome = false := by cases h : findO L s.code <;> simp_all
    simp [this]
  · rw [if_neg h1]
    have h1' : (findO L s.code).isSome = true := by cases h : findO L s.code <;> simp_all
    by_cases h2 : s ∈ l
    · simp [h2]
    · rw [if_neg h2]
      by_cases h3 : s ∈ met
      · rw [if_neg (fun h => h h3)]
        by_cases h4 : (getO L s.code).places ≤ (takenF l s.code : Int)
        · rw [if_pos h4]; constructor
          · intro h; cases h
          · rintro ⟨_, _, _, h, _⟩; omega
        · rw [if_neg h4]
          cases h5 : clashF L (getO L s.code) l s.student
          · rw [if_neg (by simp)]
            by_cases h6 : most < creditsF L l s.student (getO L s.code).credits
            · rw [if_pos h6]; constructor
              · intro h; cases h
              · rintro ⟨_, _, _, _, _, h⟩; omega
            · rw [if_neg h6]; simp only [true_iff]; exact ⟨h1', h2, h3, by omega, trivial, by omega⟩
          · rw [if_pos rfl]; simp
      · rw [if_pos h3]; simp [h3]
/-- Catalogs whose credits are small. -/
def Calm (L : List Off) : Prop := ∀ o ∈ L, 0 ≤ o.credits ∧ o.credits ≤ 1000
theorem getO_calm {L : List Off} (h : Calm L) (c : ByteArray) : 0 ≤ (getO L c).credits ∧ (getO L c).credits ≤ 1000 := by
  unfold getO
  cases hf : findO L c with
  | none => exact ⟨by decide, by decide⟩
  | some o => exact h o (List.mem_of_find?_eq_some hf)
/-- The credits, as a plain sum. -/
def sumC (L : List Off) (l : List Seat) (st : Int) : Int := ((l.filter fun x => decide (x.student = st)).map fun x => (getO L x.code).credits).sum
theorem sumC_cons (L : List Off) (x : Seat) (l : List Seat) (st : Int) : sumC L (x :: l) st = (if x.student = st then (getO L x.code).credits else 0) + sumC L l st := by
  unfold sumC
  by_cases h : x.student = st <;> simp [h]
theorem sumC_nonneg {L : List Off} (h : Calm L) (l : List Seat) (st : Int) : 0 ≤ sumC L l st := by
  induction l with
  | nil => simp [sumC]
  | cons x l ih =>
    rw [sumC_cons]
    have := getO_calm h x.code
    split <;> omega
theorem sumC_le {L : List Off} (h : Calm L) (l : List Seat) (st : Int) : sumC L l st ≤ 1000 * l.length := by
  induction l with
  | nil => simp [sumC]
  | cons x l ih =>
    rw [sumC_cons]
    have := getO_calm h x.code
    simp only [List.length_cons]
    split <;> omega
theorem i64_id {n : Int} (h0 : 0 ≤ n) (h1 : n ≤ 1000000000) : IntKind.i64.wrap n = n := IntWalk.i64_in _ (by omega)
theorem creditsF_eq {L : List Off} (h : Calm L) : ∀ (l : List Seat) (st c0 : Int), 0 ≤ c0 → c0 + 1000 * l.length ≤ 1000000000 → creditsF L l st c0 = c0 + sumC L l st
  | [], st, c0, _, _ => by simp [creditsF, sumC]
  | x :: l, st, c0, h0, h1 => by
    have hx := getO_calm h x.code
    simp only [List.length_cons] at h1
    have h2 : creditsF L (x :: l) st c0 = creditsF L l st (addC L st c0 x) := rfl
    rw [h2, sumC_cons]
    unfold addC
    by_cases hst : x.student = st
    · rw [if_pos hst, if_pos hst, i64_id (by omega) (by omega), creditsF_eq h l st _ (by omega) (by omega)]; omega
    · rw [if_neg hst, if_neg hst, creditsF_eq h l st _ h0 (by omega)]; omega
theorem sumC_sub {L : List Off} (h : Calm L) {l' l : List Seat} (hl : l'.Sublist l) (st : Int) : sumC L l' st ≤ sumC L l st := by
  induction hl with
  | slnil => exact Int.le_refl _
  | cons x _ ih => rw [sumC_cons]; have := getO_calm h x.code; split <;> omega
  | cons_cons x _ ih => rw [sumC_cons, sumC_cons]; omega
theorem fits_sub {L : List Off} {met : List Seat} {most : Int} {l l' : List Seat} {s : Seat} (hc : Calm L) (hl : l'.Sublist l) (hn : l.length ≤ 1000) (h : fitsP L met most l s = 0) : fitsP L met most l' s = 0 := by
  rw [fitsP_zero] at h ⊢
  obtain ⟨h1, h2, h3, h4, h5, h6⟩ := h
  have hg := getO_calm hc s.code
  have hn' := hl.length_le
  refine ⟨h1, fun h => h2 (hl.subset h), h3, ?_, ?_, ?_⟩
  · have : takenF l' s.code ≤ takenF l s.code := hl.countP_le
    omega
  · unfold clashF at h5 ⊢
    rw [List.any_eq_false] at h5 ⊢
    exact fun x hx => h5 x (hl.subset hx)
  · rw [creditsF_eq hc _ _ _ hg.1 (by omega)] at h6 ⊢
    have := sumC_sub hc hl s.student
    omega

/-! ### A permitted list of seats -/
/-- Each seat fits those before it. -/
def OkS (L : List Off) (met : List Seat) (most : Int) (l : List Seat) : Prop := ∀ k s, l[k]? = some s → fitsP L met most (l.take k) s = 0
theorem okS_nil (L : List Off) (met : List Seat) (most : Int) : OkS L met most [] := fun k s h => by simp at h
theorem okS_snoc {L : List Off} {met : List Seat} {most : Int} {l : List Seat} {s : Seat} : OkS L met most (l ++ [s]) ↔ OkS L met most l ∧ fitsP L met most l s = 0 := by
  constructor
  · intro h
    refine ⟨fun k x hk => ?_, ?_⟩
    · have hlt : k < l.length := by
        rcases Nat.lt_or_ge k l.length with h' | h'
        · exact h'
        · rw [List.getElem?_eq_none h'] at hk; cases hk
      have := h k x (by rw [List.getElem?_append_left hlt]; exact hk)
      rwa [List.take_append_of_le_length (by omega)] at this
    · have := h l.length s (by simp)
      simpa using this
  · rintro ⟨h1, h2⟩ k x hk
    rcases Nat.lt_trichotomy k l.length with h' | h' | h'
    · rw [List.getElem?_append_left h'] at hk
      rw [List.take_append_of_le_length (by omega)]
      exact h1 k x hk
    · subst h'
      simp at hk
      subst hk
      simpa using h2
    · rw [List.getElem?_eq_none (by simp; omega)] at hk; cases hk
theorem snoc_cases {α : Type} (l : List α) : l = [] ∨ ∃ a x, l = a ++ [x] := by
  rcases List.eq_nil_or_concat l with h | ⟨a, x, h⟩
  · exact .inl h
  · exact .inr ⟨a, x, by simpa using h⟩
theorem okS_sub {L : List Off} {met : List Seat} {most : Int} (hc : Calm L) : ∀ (n : Nat) (l l' : List Seat), l.length = n → n ≤ 1000 → l'.Sublist l → OkS L met most l → OkS L met most l' := by
  intro n
  induction n with
  | zero =>
    intro l l' hn _ hl _
    have : l' = [] := by have := hl.length_le; exact List.eq_nil_of_length_eq_zero (by omega)
    subst this; exact okS_nil _ _ _
  | succ n ih =>
    intro l l' hn h1 hl h
    rcases snoc_cases l with rfl | ⟨a, x, rfl⟩
    · simp at hn
    · rw [okS_snoc] at h
      simp only [List.length_append, List.length_singleton] at hn
      obtain ⟨u, v, rfl, hu, hv⟩ := List.sublist_append_iff.1 hl
      have hva := ih a u (by omega) (by omega) hu h.1
      rcases snoc_cases v with rfl | ⟨b, y, rfl⟩
      · simpa using hva
      · have hl2 := hv.length_le
        simp only [List.length_append, List.length_singleton] at hl2
        obtain rfl : b = [] := List.eq_nil_of_length_eq_zero (by omega)
        have : y = x := by simpa using hv
        subst this
        rw [List.nil_append, okS_snoc]
        exact ⟨hva, fits_sub hc hu (by omega) h.2⟩
theorem okS_nodup {L : List Off} {met : List Seat} {most : Int} : ∀ (n : Nat) (l : List Seat), l.length = n → OkS L met most l → l.Nodup := by
  intro n
  induction n with
  | zero => intro l hn _; rw [List.eq_nil_of_length_eq_zero hn]; exact List.nodup_nil
  | succ n ih =>
    intro l hn h
    rcases snoc_cases l with rfl | ⟨a, x, rfl⟩
    · exact List.nodup_nil
    · rw [okS_snoc] at h
      simp only [List.length_append, List.length_singleton] at hn
      rw [List.nodup_append]
      refine ⟨ih a (by omega) h.1, by simp, fun y hy z hz e => ?_⟩
      simp at hz
      subst e; subst hz
      exact (fitsP_zero.1 h.2).2.1 hy
end Go.Proofs.Ytjcogpalmgcpbaa
