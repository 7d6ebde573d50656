/- Exchanges of places in plain words. -/
import Derived.Test.YtjcogpalmgcpbaaMkPl3
namespace Go.Proofs.Ytjcogpalmgcpbaa
open Go Go.Proofs Go.RowKit Go.Sort Go.Lib

instance : DecidableEq Req := fun a b => decidable_of_iff _ (eqReq_iff a b)
theorem eqReq_dec (a b : Req) : eqReq a b = decide (a = b) := by rw [Bool.eq_iff_iff, eqReq_iff, decide_eq_true_eq]
/-- The set that a list is. -/
noncomputable def setOf (l : List Req) : List Req := by classical exact if h : ∃ M, IsSet M l then h.choose else []
theorem setOf_eq {M l : List Req} (h : IsSet M l) : setOf l = M := by
  unfold setOf
  rw [dif_pos ⟨M, h⟩]
  exact IsSet.eq (Exists.choose_spec (⟨M, h⟩ : ∃ M, IsSet M l)) h (fun _ => Iff.rfl)
noncomputable def actS (l : List Req) : List Req := actR (setOf l)
theorem actS_eq {M l : List Req} (h : IsSet M l) : actS l = actR M := by unfold actS; rw [setOf_eq h]
def reqZ : Req := ⟨0, 0, false, 0, 0, ⟨#[]⟩, ⟨#[]⟩, 0, 0⟩
def atR (l : List Req) (n : Nat) : Req := (l[n]?).getD reqZ
theorem atR_get {l : List Req} {n : Nat} {r : Req} (h : l[n]? = some r) : atR l n = r := by unfold atR; rw [h]; rfl
theorem atR_mem {l : List Req} {n : Nat} (h : n < l.length) : atR l n ∈ l := by
  rw [atR_get (List.getElem?_eq_getElem h)]; exact List.getElem_mem h
/-- .. can be exchanged. -/
def canB (A : List Req) (d : Deal) (r : Req) : Bool :=
  !decide (r.give.size = 0) && !decide (r.give = r.code) && decide (giveOf r ∈ d.seats) && decide (seatOf r ∈ d.waits) && !decide (seatOf r ∈ d.seats) && decide (r ∈ A)
structure CanR (A : List Req) (d : Deal) (r : Req) : Prop where
  give : r.give.size ≠ 0
  ne : r.give ≠ r.code
  has : giveOf r ∈ d.seats
  wait : seatOf r ∈ d.waits
  not : seatOf r ∉ d.seats
  act : r ∈ A
theorem canB_iff {A : List Req} {d : Deal} {r : Req} : canB A d r = true ↔ CanR A d r := by
  unfold canB
  simp only [Bool.and_eq_true, Bool.not_eq_true', decide_eq_false_iff_not, decide_eq_true_eq]
  exact ⟨fun ⟨⟨⟨⟨⟨a, b⟩, c⟩, d⟩, e⟩, f⟩ => ⟨a, b, c, d, e, f⟩, fun h => ⟨⟨⟨⟨⟨h.give, h.ne⟩, h.has⟩, h.wait⟩, h.not⟩, h.act⟩⟩
/-- The first k of them that can. -/
def canTo (A : List Req) (d : Deal) (l : List Req) (k : Nat) : List Nat := (List.range k).filter fun i => canB A d (atR l i)
def canP (A : List Req) (d : Deal) (l : List Req) : List Nat := canTo A d l l.length
theorem canTo_succ (A : List Req) (d : Deal) (l : List Req) (k : Nat) : canTo A d l (k + 1) = canTo A d l k ++ if canB A d (atR l k) = true then [k] else [] := by
  unfold canTo
  rw [List.range_succ, List.filter_append]
  congr 1
  by_cases h : canB A d (atR l k) = true <;> simp [h]
theorem canTo_len (A : List Req) (d : Deal) (l : List Req) (k : Nat) : (canTo A d l k).length ≤ k := by
  have := List.length_filter_le (fun i => canB A d (atR l i)) (List.range k)
  rw [List.length_range] at this
  exact this
theorem mem_canP {A : List Req} {d : Deal} {l : List Req} {n : Nat} : n ∈ canP A d l ↔ n < l.length ∧ CanR A d (atR l n) := by
  unfold canP canTo
  rw [List.mem_filter, List.mem_range, canB_iff]
def followsB (l : List Req) (c : List Nat) (n : Nat) : Bool :=
  c.isEmpty || (decide (c.headD 0 < n) && decide ((atR l (c.getLastD 0)).code = (atR l n).give) && !(c.any fun k => decide ((atR l k).student = (atR l n).student)))
def closesB (l : List Req) (c : List Nat) : Bool := decide ((atR l (c.getLastD 0)).code = (atR l (c.headD 0)).give)
/-- The circles that begin in a way, with m more. -/
def extP (l : List Req) (can : List Nat) : Nat → List Nat → List (List Nat)
  | 0, c => if closesB l c = true then [c] else []
  | m + 1, c => can.flatMap fun n => if followsB l c n = true then extP l can m (c ++ [n]) else []
/-- Each one follows. -/
def Chain (l : List Req) (can c : List Nat) : Prop := ∀ i n, c[i]? = some n → n ∈ can ∧ followsB l (c.take i) n = true
theorem chain_nil (l : List Req) (can : List Nat) : Chain l can [] := fun i n h => by simp at h
theorem chain_snoc {l : List Req} {can c : List Nat} {n : Nat} : Chain l can (c ++ [n]) ↔ Chain l can c ∧ n ∈ can ∧ followsB l c n = true := by
  constructor
  · intro h
    refine ⟨fun i x hi => ?_, ?_⟩
    · have hlt : i < c.length := (List.getElem?_eq_some_iff.1 hi).1
      have := h i x (by rw [List.getElem?_append_left hlt]; exact hi)
      rwa [List.take_append_of_le_length (by omega)] at this
    · have := h c.length n (by simp)
      simpa using this
  · rintro ⟨h1, h2⟩ i x hi
    rcases Nat.lt_trichotomy i c.length with h' | h' | h'
    · rw [List.getElem?_append_left h'] at hi
      rw [List.take_append_of_le_length (by omega)]
      exact h1 i x hi
    · subst h'
      simp at hi
      subst hi
      simpa using h2
    · rw [List.getElem?_eq_none (by simp; omega)] at hi; cases hi
theorem mem_ext {l : List Req} {can : List Nat} : ∀ (m : Nat) (c x : List Nat), Chain l can c → (x ∈ extP l can m c ↔ ∃ s, x = c ++ s ∧ s.length = m ∧ Chain l can x ∧ closesB l x = true)
  | 0, c, x, hc => by
    unfold extP
    constructor
    · intro h
      split at h
      · rename_i h2
        rw [List.mem_singleton] at h
        subst h
        exact ⟨[], by simp, rfl, hc, h2⟩
      · cases h
    · rintro ⟨s, rfl, hs, h1, h2⟩
      have : s = [] := List.eq_nil_of_length_eq_zero hs
      subst this
      rw [List.append_nil] at h2 ⊢
      rw [if_pos h2]; simp
  | m + 1, c, x, hc => by
    unfold extP
    rw [List.mem_flatMap]
    constructor
    · rintro ⟨n, hn, h⟩
      split at h
      · rename_i hf
        obtain ⟨s, rfl, hs, h1, h2⟩ := (mem_ext m (c ++ [n]) x (chain_snoc.2 ⟨hc, hn, hf⟩)).1 h
        exact ⟨n :: s, by simp, by simp [hs], h1, h2⟩
      · cases h
    · rintro ⟨s, rfl, hs, h1, h2⟩
      cases s with
      | nil => simp at hs
      | cons n s =>
        have hn := h1 c.length n (by simp)
        rw [List.take_left] at hn
        refine ⟨n, hn.1, ?_⟩
        rw [if_pos hn.2]
        exact (mem_ext m (c ++ [n]) _ (chain_snoc.2 ⟨hc, hn⟩)).2 ⟨s, by simp, by simpa using hs, h1, h2⟩
theorem mem_circles {l : List Req} {can : List Nat} {m : Nat} {x : List Nat} : x ∈ extP l can m [] ↔ x.length = m ∧ Chain l can x ∧ closesB l x = true := by
  rw [mem_ext m [] x (chain_nil _ _)]
  constructor
  · rintro ⟨s, rfl, h⟩; simpa using h
  · exact fun h => ⟨x, rfl, h⟩
/-- .. is a circle. -/
def isB (l : List Req) (can c : List Nat) : Bool :=
  decide (2 ≤ c.length) && decide (c.length ≤ 4) && (List.range c.length).all (fun i => decide (c.getD i 0 ∈ can) && followsB l (c.take i) (c.getD i 0)) && closesB l c
theorem isB_iff {l : List Req} {can c : List Nat} : isB l can c = true ↔ 2 ≤ c.length ∧ c.length ≤ 4 ∧ Chain l can c ∧ closesB l c = true := by
  unfold isB
  simp only [Bool.and_eq_true, decide_eq_true_eq, List.all_eq_true, List.mem_range]
  constructor
  · rintro ⟨⟨⟨h1, h2⟩, h3⟩, h4⟩
    refine ⟨h1, h2, fun i n hi => ?_, h4⟩
    have hlt : i < c.length := (List.getElem?_eq_some_iff.1 hi).1
    have := h3 i hlt
    rw [List.getD_eq_getElem?_getD, hi] at this
    exact this
  · rintro ⟨h1, h2, h3, h4⟩
    refine ⟨⟨⟨h1, h2⟩, fun i hi => ?_⟩, h4⟩
    have := h3 i _ (List.getElem?_eq_getElem hi)
    rw [List.getD_eq_getElem?_getD, List.getElem?_eq_getElem hi]
    exact this
/-- The deal after requests are met in turn. -/
def turn1 (d : Deal) (r : Req) : Deal := ⟨d.seats.replace (giveOf r) (seatOf r), d.waits.erase (seatOf r)⟩
def turnR (d : Deal) (rs : List Req) : Deal := rs.foldl turn1 d
def turnP (l : List Req) (d : Deal) (c : List Nat) : Deal := turnR d (c.map (atR l))
def allC (l : List Req) (can : List Nat) : List (List Nat) := extP l can 2 [] ++ extP l can 3 [] ++ extP l can 4 []
def goodC (L : List Off) (M : List Seat) (most : Int) (l : List Req) (d : Deal) (c : List Nat) : Bool := decide (checkP L M most (turnP l d c).seats (turnP l d c).seats.length = 0)
noncomputable def circleP (L : List Off) (M : List Seat) (most : Int) (l : List Req) (d : Deal) : Option (List Nat) := (allC l (canP (actS l) d l)).find? (goodC L M most l d)
theorem mem_allC {l : List Req} {can x : List Nat} : x ∈ allC l can ↔ isB l can x = true := by
  unfold allC
  rw [List.mem_append, List.mem_append, mem_circles, mem_circles, mem_circles, isB_iff]
  constructor
  · rintro ((⟨h, h2⟩ | ⟨h, h2⟩) | ⟨h, h2⟩) <;> exact ⟨by omega, by omega, h2⟩
  · rintro ⟨h1, h2, h3⟩
    have : x.length = 2 ∨ x.length = 3 ∨ x.length = 4 := by omega
    rcases this with h | h | h
    · exact .inl (.inl ⟨h, h3⟩)
    · exact .inl (.inr ⟨h, h3⟩)
    · exact .inr ⟨h, h3⟩
/-- What trading leads to. -/
inductive Reach (L : List Off) (M : List Seat) (most : Int) (l : List Req) : Deal → Deal → Prop where
  | refl (d : Deal) : Reach L M most l d d
  | step {d e : Deal} {c : List Nat} (h : circleP L M most l d = some c) (t : Reach L M most l (turnP l d c) e) : Reach L M most l d e
theorem Reach.snoc {L : List Off} {M : List Seat} {most : Int} {l : List Req} {d e : Deal} {c : List Nat} (h : Reach L M most l d e) (hc : circleP L M most l e = some c) : Reach L M most l d (turnP l e c) := by
  induction h with
  | refl d => exact .step hc (.refl _)
  | step h _ ih => exact .step h (ih hc)
theorem Reach.stop {L : List Off} {M : List Seat} {most : Int} {l : List Req} {d e : Deal} (h : Reach L M most l d e) (hd : circleP L M most l d = none) : e = d := by
  cases h with
  | refl => rfl
  | step h _ => rw [hd] at h; cases h

/-! ### What one turn does -/
/-- The requests of a circle. -/
structure Ring (A : List Req) (d : Deal) (rs : List Req) : Prop where
  far : rs.Pairwise fun a b => a.student ≠ b.student
  can : ∀ r ∈ rs, CanR A d r
theorem last_getD (c : List Nat) (n : Nat) : (c ++ [n]).getLastD 0 = n := by simp
theorem follows_far {l : List Req} {c : List Nat} {n : Nat} (h : followsB l c n = true) : ∀ k ∈ c, (atR l k).student ≠ (atR l n).student := by
  intro k hk
  unfold followsB at h
  cases c with
  | nil => cases hk
  | cons a c =>
    simp only [List.isEmpty_cons, Bool.false_or, Bool.and_eq_true, Bool.not_eq_true', List.any_eq_false, decide_eq_true_eq] at h
    exact h.2 k hk
theorem chain_far {l : List Req} {can : List Nat} (c : List Nat) : Chain l can c → (c.map (atR l)).Pairwise fun a b => a.student ≠ b.student := by
  refine snoc_ind (p := fun c => Chain l can c → (c.map (atR l)).Pairwise fun a b => a.student ≠ b.student) (fun _ => List.Pairwise.nil) (fun a x ih h => ?_) c
  rw [chain_snoc] at h
  rw [List.map_append, List.map_singleton, List.pairwise_append]
  refine ⟨ih h.1, List.pairwise_singleton _ _, fun u hu v hv => ?_⟩
  rw [List.mem_singleton] at hv
  subst hv
  obtain ⟨k, hk, rfl⟩ := List.mem_map.1 hu
  exact follows_far h.2.2 k hk
theorem chain_ring {A : List Req} {d : Deal} {l : List Req} {c : List Nat} (h : Chain l (canP A d l) c) : Ring A d (c.map (atR l)) where
  far := chain_far c h
  can r hr := by
    obtain ⟨n, hn, rfl⟩ := List.mem_map.1 hr
    obtain ⟨i, hi⟩ := List.mem_iff_getElem?.1 hn
    exact (mem_canP.1 (h i n hi).1).2
theorem turnR_cons (d : Deal) (r : Req) (rs : List Req) : turnR d (r :: rs) = turnR (turn1 d r) rs := rfl
theorem repl_cons (y : Seat) (l : List Seat) (a b : Seat) : (y :: l).replace a b = if a = y then b :: l else y :: l.replace a b := by
  rw [List.replace_cons]
  by_cases h : a = y
  · subst h; simp
  · rw [if_neg h, beq_eq_false_iff_ne.2 h]
theorem mem_replace {l : List Seat} {a b x : Seat} (hx : x ≠ a) (h : x ∈ l) : x ∈ l.replace a b := by
  induction l with
  | nil => cases h
  | cons y l ih =>
    rw [repl_cons]
    by_cases hy : a = y
    · rw [if_pos hy]
      rcases List.mem_cons.1 h with rfl | h
      · exact absurd hy.symm hx
      · exact List.mem_cons_of_mem _ h
    · rw [if_neg hy]
      rcases List.mem_cons.1 h with rfl | h
      · exact List.mem_cons_self
      · exact List.mem_cons_of_mem _ (ih h)
theorem of_replace {l : List Seat} {a b x : Seat} (hx : x ≠ b) (h : x ∈ l.replace a b) : x ∈ l := by
  induction l with
  | nil => simp at h
  | cons y l ih =>
    rw [repl_cons] at h
    split at h
    · rcases List.mem_cons.1 h with rfl | h
      · exact absurd rfl hx
      · exact List.mem_cons_of_mem _ h
    · rcases List.mem_cons.1 h with rfl | h
      · exact List.mem_cons_self
      · exact List.mem_cons_of_mem _ (ih h)
theorem in_replace {l : List Seat} {a : Seat} (b : Seat) (h : a ∈ l) : b ∈ l.replace a b := by
  induction l with
  | nil => cases h
  | cons y l ih =>
    rw [repl_cons]
    by_cases hy : a = y
    · rw [if_pos hy]; exact List.mem_cons_self
    · rw [if_neg hy]
      rcases List.mem_cons.1 h with rfl | h
      · exact absurd rfl hy
      · exact List.mem_cons_of_mem _ (ih h)
theorem len_replace (l : List Seat) (a b : Seat) : (l.replace a b).length = l.length := List.length_replace
theorem map_replace {β : Type} (f : Seat → β) {a b : Seat} (h : f a = f b) : ∀ l : List Seat, (l.replace a b).map f = l.map f
  | [] => by simp
  | y :: l => by
    rw [repl_cons]
    split
    · rename_i hy
      subst hy
      rw [List.map_cons, List.map_cons, h]
    · rw [List.map_cons, List.map_cons, map_replace f h l]
theorem count_replace (p : Seat → Bool) {a b : Seat} : ∀ {l : List Seat}, a ∈ l → (l.replace a b).countP p + (if p a = true then 1 else 0) = l.countP p + (if p b = true then 1 else 0)
  | [], h => by cases h
  | y :: l, h => by
    rw [repl_cons]
    by_cases hy : a = y
    · rw [if_pos hy]
      subst hy
      rw [List.countP_cons, List.countP_cons]
      omega
    · rw [if_neg hy]
      have hm : a ∈ l := by
        rcases List.mem_cons.1 h with rfl | h
        · exact absurd rfl hy
        · exact h
      have := count_replace p (b := b) hm
      rw [List.countP_cons, List.countP_cons]
      omega
theorem Ring.tail {A : List Req} {d : Deal} {r : Req} {rs : List Req} (h : Ring A d (r :: rs)) : Ring A (turn1 d r) rs where
  far := (List.pairwise_cons.1 h.far).2
  can x hx := by
    have hne := (List.pairwise_cons.1 h.far).1 x hx
    have hc := h.can x (List.mem_cons_of_mem _ hx)
    refine ⟨hc.give, hc.ne, mem_replace (fun e => hne (congrArg Seat.student e).symm) hc.has, ?_, fun hm => hc.not (of_replace (fun e => hne (congrArg Seat.student e).symm) hm), hc.act⟩
    exact (List.mem_erase_of_ne (fun e => hne (congrArg Seat.student e).symm)).2 hc.wait
theorem Ring.head {A : List Req} {d : Deal} {r : Req} {rs : List Req} (h : Ring A d (r :: rs)) : CanR A d r := h.can r List.mem_cons_self
section
variable {A : List Req}
theorem turn_students : ∀ (rs : List Req) (d : Deal), (turnR d rs).seats.map Seat.student = d.seats.map Seat.student
  | [], _ => rfl
  | r :: rs, d => by
    rw [turnR_cons, turn_students rs]
    exact map_replace Seat.student (a := giveOf r) (b := seatOf r) rfl d.seats
theorem turn_len (rs : List Req) (d : Deal) : (turnR d rs).seats.length = d.seats.length := by
  have := congrArg List.length (turn_students rs d)
  simpa using this
theorem turn_waits_len : ∀ (rs : List Req) (d : Deal), Ring A d rs → (turnR d rs).waits.length + rs.length = d.waits.length
  | [], _, _ => rfl
  | r :: rs, d, h => by
    rw [turnR_cons]
    have h1 := turn_waits_len rs (turn1 d r) h.tail
    have h2 : (turn1 d r).waits.length = d.waits.length - 1 := List.length_erase_of_mem h.head.wait
    have h3 := List.length_pos_of_mem h.head.wait
    rw [List.length_cons]
    omega
theorem turn_waits_sub : ∀ (rs : List Req) (d : Deal) {x : Seat}, x ∈ (turnR d rs).waits → x ∈ d.waits
  | [], _, _, h => h
  | r :: rs, d, _, h => List.mem_of_mem_erase (turn_waits_sub rs (turn1 d r) h)
theorem turn_waits_out : ∀ (rs : List Req) (d : Deal) {x : Seat}, x ∈ d.waits → x ∈ (turnR d rs).waits ∨ ∃ r ∈ rs, x = seatOf r
  | [], _, _, h => .inl h
  | r :: rs, d, x, h => by
    by_cases hx : x = seatOf r
    · exact .inr ⟨r, List.mem_cons_self, hx⟩
    · rcases turn_waits_out rs (turn1 d r) ((List.mem_erase_of_ne hx).2 h) with h2 | ⟨y, hy, e⟩
      · exact .inl h2
      · exact .inr ⟨y, List.mem_cons_of_mem _ hy, e⟩
theorem turn_count (p : Seat → Bool) : ∀ (rs : List Req) (d : Deal), Ring A d rs → (turnR d rs).seats.countP p + (rs.map giveOf).countP p = d.seats.countP p + (rs.map seatOf).countP p
  | [], _, _ => by simp [turnR]
  | r :: rs, d, h => by
    rw [turnR_cons, List.map_cons, List.map_cons, List.countP_cons, List.countP_cons]
    have h1 := turn_count p rs (turn1 d r) h.tail
    have h2 := count_replace p (b := seatOf r) h.head.has
    have h3 : (turn1 d r).seats = d.seats.replace (giveOf r) (seatOf r) := rfl
    rw [h3] at h1
    omega
/-- A seat of another student stays. -/
theorem turn_other : ∀ (rs : List Req) (d : Deal) {x : Seat}, (∀ r ∈ rs, r.student ≠ x.student) → (x ∈ (turnR d rs).seats ↔ x ∈ d.seats)
  | [], _, _, _ => Iff.rfl
  | r :: rs, d, x, h => by
    have hr := h r List.mem_cons_self
    rw [turnR_cons, turn_other rs _ (fun y hy => h y (List.mem_cons_of_mem _ hy))]
    exact ⟨of_replace (fun e => hr (congrArg Seat.student e).symm), mem_replace (fun e => hr (congrArg Seat.student e).symm)⟩
theorem turn_gets : ∀ (rs : List Req) (d : Deal), Ring A d rs → ∀ r ∈ rs, seatOf r ∈ (turnR d rs).seats
  | [], _, _, _, hr => by cases hr
  | x :: rs, d, h, r, hr => by
    rw [turnR_cons]
    rcases List.mem_cons.1 hr with rfl | hr
    · have hf := (List.pairwise_cons.1 h.far).1
      exact (turn_other rs (turn1 d r) (fun y hy => (hf y hy).symm)).2 (in_replace _ h.head.has)
    · exact turn_gets rs _ h.tail r hr
theorem nodup_replace {l : List Seat} {a b : Seat} (hn : l.Nodup) (hb : b ∉ l) : (l.replace a b).Nodup := by
  induction l with
  | nil => simp
  | cons y l ih =>
    rw [List.nodup_cons] at hn
    have hbl : b ∉ l := fun h => hb (List.mem_cons_of_mem _ h)
    rw [repl_cons]
    split
    · rw [List.nodup_cons]; exact ⟨hbl, hn.2⟩
    · rw [List.nodup_cons]
      refine ⟨fun h => hn.1 (of_replace (fun e => hb (by rw [← e]; exact List.mem_cons_self)) h), ih hn.2 hbl⟩
theorem not_replace {l : List Seat} {a b : Seat} (hn : l.Nodup) (hab : a ≠ b) : a ∉ l.replace a b := by
  induction l with
  | nil => simp
  | cons y l ih =>
    rw [List.nodup_cons] at hn
    rw [repl_cons]
    by_cases hy : a = y
    · rw [if_pos hy]
      subst hy
      intro h
      rcases List.mem_cons.1 h with h | h
      · exact hab h
      · exact hn.1 h
    · rw [if_neg hy]
      intro h
      rcases List.mem_cons.1 h with rfl | h
      · exact absurd rfl hy
      · exact ih hn.2 h
theorem turn_gives : ∀ (rs : List Req) (d : Deal), Ring A d rs → d.seats.Nodup → ∀ r ∈ rs, giveOf r ∉ (turnR d rs).seats
  | [], _, _, _, _, hr => by cases hr
  | x :: rs, d, h, hn, r, hr => by
    rw [turnR_cons]
    rcases List.mem_cons.1 hr with rfl | hr
    · have hf := (List.pairwise_cons.1 h.far).1
      rw [turn_other rs (turn1 d r) (x := giveOf r) (fun y hy => (hf y hy).symm)]
      exact not_replace hn (fun e => h.head.ne (congrArg Seat.code e))
    · exact turn_gives rs _ h.tail (nodup_replace hn h.head.not) r hr
end
end Go.Proofs.Ytjcogpalmgcpbaa
