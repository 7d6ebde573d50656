/- What a deal keeps: permitted, whole, and first come. -/
import Derived.Test.YtjcogpalmgcpbaaMkPl
namespace Go.Proofs.Ytjcogpalmgcpbaa
open Go Go.Proofs Go.RowKit Go.Sort Go.Lib

theorem snoc_ind {α : Type} {p : List α → Prop} (h0 : p []) (h1 : ∀ a x, p a → p (a ++ [x])) : ∀ l, p l := fun l => by
  have h : ∀ (n : Nat) (l : List α), l.length = n → p l := fun n => by
    induction n with
    | zero => intro l hl; rw [List.eq_nil_of_length_eq_zero hl]; exact h0
    | succ n ih =>
      intro l hl
      rcases snoc_cases l with rfl | ⟨a, x, rfl⟩
      · exact h0
      · simp only [List.length_append, List.length_singleton] at hl
        exact h1 a x (ih a (by omega))
  exact h _ l rfl
section
variable {L : List Off} {met : List Seat} {most : Int}
theorem others_sub (l : List Seat) (r : Req) : (othersD l r).Sublist l := by
  unfold othersD
  split
  · exact List.Sublist.refl _
  · exact List.filter_sublist
theorem step_len (d : Deal) (r : Req) : (stepD L met most d r).seats.length ≤ d.seats.length + 1 ∧ (stepD L met most d r).waits.length ≤ d.waits.length + 1 := by
  unfold stepD
  have := (others_sub d.seats r).length_le
  split
  · simp only [List.length_append, List.length_singleton]; omega
  · split
    · omega
    · simp only [List.length_append, List.length_singleton]; omega
theorem deal_len (O : List Req) : (dealP L met most O).seats.length ≤ O.length ∧ (dealP L met most O).waits.length ≤ O.length := by
  refine snoc_ind (p := fun O => (dealP L met most O).seats.length ≤ O.length ∧ (dealP L met most O).waits.length ≤ O.length) ?_ (fun a x ih => ?_) O
  · exact ⟨Nat.le_refl _, Nat.le_refl _⟩
  · simp only [dealP_snoc]
    have := step_len (L := L) (met := met) (most := most) (dealP L met most a) x
    simp only [List.length_append, List.length_singleton]; omega
theorem deal_nodup (O : List Req) : (dealP L met most O).seats.Nodup := by
  refine snoc_ind (p := fun O => (dealP L met most O).seats.Nodup) List.nodup_nil (fun a x ih => ?_) O
  simp only [dealP_snoc]
  unfold stepD
  split
  · rename_i h
    rw [List.nodup_append]
    exact ⟨ih.sublist (others_sub _ _), by simp, fun y hy z hz e => by
      simp at hz; subst hz; subst e; exact (fitsP_zero.1 h.2).2.1 hy⟩
  · split <;> exact ih
theorem deal_ok (hc : Calm L) (O : List Req) : O.length ≤ 1000 → OkS L met most (dealP L met most O).seats := by
  refine snoc_ind (p := fun O => O.length ≤ 1000 → OkS L met most (dealP L met most O).seats) ?_ (fun a x ih => ?_) O
  · exact fun _ => okS_nil _ _ _
  · intro hl
    simp only [List.length_append, List.length_singleton] at hl
    have ih := ih (by omega)
    have hn := (deal_len (L := L) (met := met) (most := most) a).1
    simp only [dealP_snoc]
    unfold stepD
    split
    · rename_i h
      exact okS_snoc.2 ⟨okS_sub hc _ _ _ rfl (by omega) (others_sub _ _) ih, h.2⟩
    · split <;> exact ih

/-! ### a permitted list -/
theorem takenF_snoc (a : List Seat) (x : Seat) (c : ByteArray) : takenF (a ++ [x]) c = takenF a c + if x.code.toList = c.toList then 1 else 0 := by
  unfold takenF
  rw [List.countP_append]
  congr 1
  by_cases h : x.code.toList = c.toList <;> simp [h]
theorem findO_code {c : ByteArray} {o : Off} (h : findO L c = some o) : o.code = c := by
  unfold findO at h
  have := List.find?_some h
  exact req_ba.1 (by simpa using this)
theorem okS_taken {l : List Seat} (c : ByteArray) (h0 : 0 ≤ (getO L c).places) : OkS L met most l → (takenF l c : Int) ≤ (getO L c).places := by
  refine snoc_ind (p := fun l => OkS L met most l → (takenF l c : Int) ≤ (getO L c).places) (fun _ => by simpa [takenF] using h0) (fun a x ih h => ?_) l
  rw [okS_snoc] at h
  rw [takenF_snoc]
  by_cases e : x.code.toList = c.toList
  · rw [if_pos e]
    obtain rfl := req_ba.1 e
    have := (fitsP_zero.1 h.2).2.2.2.1
    omega
  · rw [if_neg e]
    have := ih h.1
    omega
theorem sumC_snoc (a : List Seat) (x : Seat) (st : Int) : sumC L (a ++ [x]) st = sumC L a st + if x.student = st then (getO L x.code).credits else 0 := by
  unfold sumC
  rw [List.filter_append, List.map_append, List.sum_append]
  by_cases e : x.student = st <;> simp [e]
theorem okS_sum {l : List Seat} (hc : Calm L) (st : Int) : l.length ≤ 1000 → OkS L met most l → (∃ x ∈ l, x.student = st) → sumC L l st ≤ most := by
  refine snoc_ind (p := fun l => l.length ≤ 1000 → OkS L met most l → (∃ x ∈ l, x.student = st) → sumC L l st ≤ most) (fun _ _ ⟨_, hx, _⟩ => by cases hx) (fun a x ih hl h hx => ?_) l
  simp only [List.length_append, List.length_singleton] at hl
  rw [okS_snoc] at h
  rw [sumC_snoc]
  by_cases e : x.student = st
  · rw [if_pos e]
    have h6 := (fitsP_zero.1 h.2).2.2.2.2.2
    have hg := getO_calm hc x.code
    rw [creditsF_eq hc _ _ _ hg.1 (by omega), e] at h6
    omega
  · rw [if_neg e]
    obtain ⟨y, hy, hys⟩ := hx
    rw [List.mem_append] at hy
    have hya : y ∈ a := hy.resolve_right fun h => by simp at h; subst h; exact e hys
    have := ih (by omega) h.1 ⟨y, hya, hys⟩
    omega
theorem okS_mem {l : List Seat} (h : OkS L met most l) {x : Seat} (hx : x ∈ l) : (findO L x.code).isSome = true ∧ x ∈ met := by
  obtain ⟨k, hk, rfl⟩ := List.mem_iff_getElem.1 hx
  have := fitsP_zero.1 (h k _ (List.getElem?_eq_getElem hk))
  exact ⟨this.1, this.2.2.1⟩
theorem clashO_comm (a b : Off) : clashO a b = clashO b a := by
  rw [Bool.eq_iff_iff]
  simp only [clashO, List.any_eq_true, decide_eq_true_eq]
  exact ⟨fun ⟨n, h, h'⟩ => ⟨n, h', h⟩, fun ⟨n, h, h'⟩ => ⟨n, h', h⟩⟩
/-- Two seats of a student are of different courses that do not meet. -/
def Apart (L : List Off) (x y : Seat) : Prop := x.student = y.student → x.code ≠ y.code ∧ clashO (getO L x.code) (getO L y.code) = false
theorem okS_apart {l : List Seat} : OkS L met most l → l.Pairwise (Apart L) := by
  refine snoc_ind (p := fun l => OkS L met most l → l.Pairwise (Apart L)) (fun _ => List.Pairwise.nil) (fun a x ih h => ?_) l
  rw [okS_snoc] at h
  rw [List.pairwise_append]
  refine ⟨ih h.1, List.pairwise_singleton _ _, fun y hy z hz => ?_⟩
  simp at hz
  subst hz
  obtain ⟨_, h2, _, _, h5, _⟩ := fitsP_zero.1 h.2
  intro e
  refine ⟨fun e2 => h2 ?_, ?_⟩
  · have : y = z := by cases y; cases z; simp_all
    rwa [← this]
  · unfold clashF at h5
    rw [List.any_eq_false] at h5
    have := h5 y hy
    rw [clashO_comm]
    simpa [e] using this
/-- The courses of a student. -/
def codesOf (l : List Seat) (st : Int) : List ByteArray := (l.filter fun x => decide (x.student = st)).map Seat.code
theorem codes_apart {l : List Seat} (h : OkS L met most l) (st : Int) : (codesOf l st).Pairwise fun a b => a ≠ b ∧ clashO (getO L a) (getO L b) = false := by
  unfold codesOf
  rw [List.pairwise_map]
  refine List.Pairwise.imp_of_mem ?_ ((okS_apart h).filter _)
  intro a b ha hb hab
  rw [List.mem_filter] at ha hb
  have h1 := of_decide_eq_true ha.2
  have h2 := of_decide_eq_true hb.2
  exact hab (h1.trans h2.symm)
theorem codes_sum (l : List Seat) (st : Int) : ((codesOf l st).map fun c => (getO L c).credits).sum = sumC L l st := by
  unfold codesOf sumC
  rw [List.map_map]; rfl
theorem codes_mem {l : List Seat} {st : Int} {c : ByteArray} : c ∈ codesOf l st ↔ (⟨st, c⟩ : Seat) ∈ l := by
  unfold codesOf
  rw [List.mem_map]
  constructor
  · rintro ⟨x, hx, rfl⟩
    rw [List.mem_filter] at hx
    have := of_decide_eq_true hx.2
    have e : (⟨st, x.code⟩ : Seat) = x := by cases x; simp_all
    rw [e]; exact hx.1
  · intro h
    exact ⟨_, List.mem_filter.2 ⟨h, by simp⟩, rfl⟩

/-! ### nobody gives anything -/
theorem others_none {l : List Seat} {r : Req} (h : r.give.size = 0) : othersD l r = l := if_pos h
theorem fine_none {l : List Seat} {r : Req} (h : r.give.size = 0) : fineD l r = true := by unfold fineD; rw [decide_eq_true h]; rfl
theorem step_none {d : Deal} {r : Req} (h : r.give.size = 0) : stepD L met most d r = if fitsP L met most d.seats (seatOf r) = 0 then ⟨d.seats ++ [seatOf r], d.waits⟩ else if seatOf r ∈ d.waits then d else ⟨d.seats, d.waits ++ [seatOf r]⟩ := by
  unfold stepD
  rw [others_none h, fine_none h]
  simp
theorem deal_all (O : List Req) (h : ∀ r ∈ O, r.give.size = 0) : ∀ r ∈ O, seatOf r ∈ (dealP L met most O).seats ∨ seatOf r ∈ (dealP L met most O).waits := by
  revert h
  refine snoc_ind (p := fun O => (∀ r ∈ O, r.give.size = 0) → ∀ r ∈ O, seatOf r ∈ (dealP L met most O).seats ∨ seatOf r ∈ (dealP L met most O).waits) (fun _ r hr => by cases hr) (fun a x ih h r hr => ?_) O
  have ih := ih fun r hr => h r (List.mem_append_left _ hr)
  rw [dealP_snoc, step_none (h x (by simp))]
  rw [List.mem_append, List.mem_singleton] at hr
  split
  · rcases hr with hr | rfl
    · exact (ih r hr).imp (fun h => List.mem_append_left _ h) id
    · exact .inl (by simp)
  · split
    · rcases hr with hr | rfl
      · exact ih r hr
      · rename_i h2; exact .inr h2
    · rcases hr with hr | rfl
      · exact (ih r hr).imp id (fun h => List.mem_append_left _ h)
      · exact .inr (by simp)
theorem deal_from (O O' : List Req) : dealP L met most (O ++ O') = O'.foldl (stepD L met most) (dealP L met most O) := by
  unfold dealP; rw [List.foldl_append]
theorem deal_grows (d : Deal) : ∀ (O : List Req), (∀ r ∈ O, r.give.size = 0) → ∃ more, (O.foldl (stepD L met most) d).seats = d.seats ++ more := by
  intro O
  refine snoc_ind (p := fun O => (∀ r ∈ O, r.give.size = 0) → ∃ more, (O.foldl (stepD L met most) d).seats = d.seats ++ more) (fun _ => ⟨[], by simp⟩) (fun a x ih h => ?_) O
  obtain ⟨m, hm⟩ := ih fun r hr => h r (List.mem_append_left _ hr)
  rw [List.foldl_append]
  show ∃ more, (stepD L met most (a.foldl (stepD L met most) d) x).seats = _
  rw [step_none (h x (by simp))]
  split
  · exact ⟨m ++ [seatOf x], by simp [hm]⟩
  · split
    · exact ⟨m, hm⟩
    · exact ⟨m, hm⟩
/-- Who waits did not fit, and does not fit in the end. -/
theorem waits_unfit (hc : Calm L) (O : List Req) (h : ∀ r ∈ O, r.give.size = 0) (hn : O.length ≤ 1000) {s : Seat} (hs : s ∈ (dealP L met most O).waits) : fitsP L met most (dealP L met most O).seats s ≠ 0 := by
  revert s
  revert h hn
  refine snoc_ind (p := fun O => (∀ r ∈ O, r.give.size = 0) → O.length ≤ 1000 → ∀ s, s ∈ (dealP L met most O).waits → fitsP L met most (dealP L met most O).seats s ≠ 0) (fun _ _ s hs => by cases hs) (fun a x ih h hn s hs => ?_) O
  simp only [List.length_append, List.length_singleton] at hn
  have ih := ih (fun r hr => h r (List.mem_append_left _ hr)) (by omega)
  have hl := (deal_len (L := L) (met := met) (most := most) a).1
  rw [dealP_snoc, step_none (h x (by simp))] at hs ⊢
  split at hs
  · rename_i h1
    rw [if_pos h1]
    intro e
    exact ih s hs (fits_sub hc (List.sublist_append_left _ _) (by simp; omega) e)
  · rename_i h1
    rw [if_neg h1]
    split at hs
    · rename_i h2
      rw [if_pos h2]; exact ih s hs
    · rename_i h2
      rw [if_neg h2]
      simp only [List.mem_append, List.mem_singleton] at hs
      rcases hs with hs | rfl
      · exact ih s hs
      · exact h1
theorem deal_last {O : List Req} {r : Req} (h : r.give.size = 0) : (dealP L met most (O ++ [r])).seats = (dealP L met most O).seats ∨ (dealP L met most (O ++ [r])).seats = (dealP L met most O).seats ++ [seatOf r] := by
  rw [dealP_snoc, step_none h]
  split
  · exact .inr rfl
  · split <;> exact .inl rfl
theorem deal_first (hc : Calm L) {O : List Req} {r : Req} (h : ∀ x ∈ r :: O, x.give.size = 0) (hn : O.length ≤ 999) : ((dealP L met most (r :: O)).seats.head? = some (seatOf r)) ↔ fitsP L met most [] (seatOf r) = 0 := by
  have e : r :: O = [r] ++ O := rfl
  constructor
  · intro hh
    have hok := deal_ok (met := met) (most := most) hc (r :: O) (by simp; omega)
    have := hok 0 (seatOf r) (by rw [← List.head?_eq_getElem?]; exact hh)
    simpa using this
  · intro hf
    rw [e, deal_from]
    obtain ⟨m, hm⟩ := deal_grows (L := L) (met := met) (most := most) (dealP L met most [r]) O fun x hx => h x (List.mem_cons_of_mem _ hx)
    rw [hm]
    have h1 : dealP L met most [r] = stepD L met most ⟨[], []⟩ r := rfl
    rw [h1, step_none (h r (by simp)), if_pos hf]
    rfl
end
/-- What Check answers. -/
def checkP (L : List Off) (met : List Seat) (most : Int) (l : List Seat) : Nat → Int
  | 0 => 0
  | n + 1 => if checkP L met most l n = 0 then (match l[n]? with | some s => fitsP L met most (l.take n) s | none => 0) else checkP L met most l n
theorem checkP_zero {L : List Off} {met : List Seat} {most : Int} {l : List Seat} : ∀ n, checkP L met most l n = 0 ↔ ∀ k s, k < n → l[k]? = some s → fitsP L met most (l.take k) s = 0
  | 0 => by simp [checkP]
  | n + 1 => by
    have ih := checkP_zero (L := L) (met := met) (most := most) (l := l) n
    unfold checkP
    by_cases h : checkP L met most l n = 0
    · rw [if_pos h]
      have h' := ih.1 h
      constructor
      · intro e k s hk hs
        rcases Nat.lt_or_ge k n with hk' | hk'
        · exact h' k s hk' hs
        · obtain rfl : k = n := by omega
          rw [hs] at e; exact e
      · intro e
        cases hs : l[n]? with
        | none => rfl
        | some s => exact e n s (by omega) hs
    · rw [if_neg h]
      exact ⟨fun e => absurd e h, fun e => absurd (ih.2 fun k s hk hs => e k s (by omega) hs) h⟩
theorem checkP_ok {L : List Off} {met : List Seat} {most : Int} {l : List Seat} : checkP L met most l l.length = 0 ↔ OkS L met most l := by
  rw [checkP_zero]
  refine ⟨fun h k s hs => h k s ?_ hs, fun h k s _ hs => h k s hs⟩
  rcases Nat.lt_or_ge k l.length with h' | h'
  · exact h'
  · rw [List.getElem?_eq_none h'] at hs; cases hs
end Go.Proofs.Ytjcogpalmgcpbaa
