/- MarketFirst in plain words: requests without Give, each with a number of its own; one that comes last, and one that comes first. -/
import Derived.Test.YtjcogpalmgcpbaaMkOp
namespace Go.Proofs.Ytjcogpalmgcpbaa
open Go Go.Proofs Go.RowKit Go.Maps Go.Sort Go.Lib

theorem fs_right : ∀ g ∈ codesL, codeL g.data.toList = true := by decide
theorem fs_size : ∀ g ∈ codesL, g.size = 2 := by decide
theorem fs_day : ∀ k : Nat, k < 20 → rightB (400 + k) = true := by decide
/-- A request as Single makes it: of number q, with a priority from lo to hi. -/
structure Pln (q lo hi : Int) (r : Req) : Prop where
  s0 : 1 ≤ r.server
  s1 : r.server ≤ 3
  sq : r.seq = q
  cn : r.cancel = false
  t0 : 1 ≤ r.student
  t1 : r.student ≤ 5
  tm : r.term = 4
  cd : r.code ∈ codesL
  gv : r.give = ⟨#[]⟩
  p0 : lo ≤ r.priority
  p1 : r.priority ≤ hi
  dy : ∃ k : Nat, k < 20 ∧ r.day = 400 + k
section
variable {q lo hi : Int} {r : Req}
theorem Pln.prio (h : Pln q lo hi r) {p lo' hi' : Int} (h0 : lo' ≤ p) (h1 : p ≤ hi') : Pln q lo' hi' { r with priority := p } :=
  ⟨h.s0, h.s1, h.sq, h.cn, h.t0, h.t1, h.tm, h.cd, h.gv, h0, h1, h.dy⟩
theorem Pln.chk (h : Pln q lo hi r) (hq : 1 ≤ q) (h0 : 0 ≤ lo) (h1 : hi ≤ 100) : chkR r = 0 := by
  obtain ⟨a, b, cc, d, f, g, k, p, y⟩ := r
  obtain ⟨s0, s1, sq, cn, t0, t1, tm, cd, gv, p0, p1, y0, hy, rfl⟩ := h
  simp only at s0 s1 sq cn t0 t1 tm cd gv p0 p1
  subst sq cn tm gv
  have heq : ¬ eqReq ⟨a, b, false, d, 4, g, ⟨#[]⟩, p, 400 + y0⟩ ⟨a, b, true, 0, 0, ⟨#[]⟩, ⟨#[]⟩, 0, 0⟩ = true := fun e => by
    have := congrArg Req.cancel ((eqReq_iff _ _).1 e)
    cases this
  have hgv : ¬ ((⟨#[]⟩ : ByteArray).toList ≠ [] ∧ codeL (⟨#[]⟩ : ByteArray).data.toList = false) := by
    rintro ⟨h, h2⟩
    exact h (by rw [ByteArray.toList_eq])
  have hkc : ¬ ((⟨#[]⟩ : ByteArray).toList == g.toList) = true := by
    rw [beq_iff_eq, req_ba]
    intro e
    have := fs_size g cd
    rw [← e] at this
    cases this
  rw [chkR_eq, if_neg (by omega), if_neg (by omega), if_neg (by omega), if_neg heq, if_neg (by decide), if_neg (by omega), if_neg (by omega), if_neg (by omega), if_neg (by omega), if_neg (by omega), if_neg (by omega),
    if_neg (by rw [fs_right g cd]; decide), if_neg hgv, if_neg hkc, if_neg (by rw [fs_day y0 hy]; decide)]
theorem Pln.small (h : Pln q lo hi r) (hq : -1000000 ≤ q) (hq2 : q ≤ 1000000) (h0 : -1000000 ≤ lo) (h1 : hi ≤ 1000000) : r.Small := by
  obtain ⟨a, b, cc, d, f, g, k, p, y⟩ := r
  obtain ⟨s0, s1, sq, cn, t0, t1, tm, cd, gv, p0, p1, y0, hy, rfl⟩ := h
  simp only at s0 s1 sq cn t0 t1 tm cd gv p0 p1
  subst sq cn tm gv
  have := fs_size g cd
  exact small_mk (by unfold I64; omega) (by omega) (by decide)
theorem Pln.none (h : Pln q lo hi r) : r.give.size = 0 := by rw [h.gv]; rfl
end
/-- The list of requests. -/
def PlnL (lo hi : Int) (A : List Req) : Prop := ∀ (k : Nat) (r : Req), A[k]? = some r → Pln ((k : Int) + 1) lo hi r
theorem PlnL.nil (lo hi : Int) : PlnL lo hi [] := fun k r h => by simp at h
theorem PlnL.snoc {lo hi : Int} {A : List Req} {r : Req} (h : PlnL lo hi A) (hr : Pln ((A.length : Int) + 1) lo hi r) : PlnL lo hi (A ++ [r]) := fun k x hk => by
  rcases Nat.lt_trichotomy k A.length with h' | h' | h'
  · rw [List.getElem?_append_left h'] at hk; exact h k x hk
  · subst h'
    simp at hk
    subst hk
    exact hr
  · rw [List.getElem?_eq_none (by simp; omega)] at hk; cases hk
section
variable {lo hi : Int} {A O : List Req} {r : Req}
theorem PlnL.mem (h : PlnL lo hi A) (hr : r ∈ A) : ∃ k : Nat, k < A.length ∧ Pln ((k : Int) + 1) lo hi r := by
  obtain ⟨k, hk, rfl⟩ := List.mem_iff_getElem.1 hr
  exact ⟨k, hk, h k _ (List.getElem?_eq_getElem hk)⟩
theorem PlnL.nums (h : PlnL lo hi A) : A.Pairwise fun a b => numR a ≠ numR b := by
  rw [List.pairwise_iff_getElem]
  intro i j hi' hj hij e
  have h1 := (h i _ (List.getElem?_eq_getElem hi')).sq
  have h2 := (h j _ (List.getElem?_eq_getElem hj)).sq
  have := congrArg Prod.snd e
  simp only [numR] at this
  omega
theorem PlnL.right (h : PlnL lo hi A) (h0 : 0 ≤ lo) (h1 : hi ≤ 100) : ∀ r ∈ A, chkR r = 0 ∧ r.cancel = false := fun r hr => by
  obtain ⟨k, hk, hp⟩ := h.mem hr
  exact ⟨hp.chk (by omega) h0 h1, hp.cn⟩
theorem PlnL.small (h : PlnL lo hi A) (hA : A.length ≤ 1000) (h0 : 0 ≤ lo) (h1 : hi ≤ 100) : ∀ r ∈ A, r.Small := fun r hr => by
  obtain ⟨k, hk, hp⟩ := h.mem hr
  exact hp.small (by omega) (by omega) (by omega) (by omega)
theorem PlnL.give (h : PlnL lo hi A) : ∀ r ∈ A, r.give.size = 0 := fun r hr => by
  obtain ⟨k, hk, hp⟩ := h.mem hr
  exact hp.none
theorem PlnL.ord (h : PlnL lo hi A) (h0 : 0 ≤ lo) (h1 : hi ≤ 100) (hO : ActOrd A O) : IsOrd O A := hO.whole (h.right h0 h1) h.nums
theorem pln_more {lo' hi' : Int} (h : PlnL lo hi A) (hA : A.length ≤ 12) (hr : Pln 100 lo' hi' r) : (A ++ [r]).Pairwise fun a b => numR a ≠ numR b := by
  rw [List.pairwise_append]
  refine ⟨h.nums, List.pairwise_singleton _ _, fun a ha b hb e => ?_⟩
  rw [List.mem_singleton] at hb
  subst hb
  obtain ⟨k, hk, hp⟩ := h.mem ha
  have := congrArg Prod.snd e
  simp only [numR] at this
  have h1 := hp.sq
  have h2 := hr.sq
  omega
theorem pln_right {lo' hi' : Int} (h : PlnL lo hi A) (h0 : 0 ≤ lo) (h1 : hi ≤ 100) (hr : Pln 100 lo' hi' r) (h0' : 0 ≤ lo') (h1' : hi' ≤ 100) : ∀ x ∈ A ++ [r], chkR x = 0 ∧ x.cancel = false := fun x hx => by
  rw [List.mem_append, List.mem_singleton] at hx
  rcases hx with hx | rfl
  · exact h.right h0 h1 x hx
  · exact ⟨hr.chk (by omega) h0' h1', hr.cn⟩
theorem pln_fits {lo' hi' : Int} (h : PlnL lo hi A) (hA : A.length ≤ 12) (h0 : 0 ≤ lo) (h1 : hi ≤ 100) (hr : Pln 100 lo' hi' r) (h0' : 0 ≤ lo') (h1' : hi' ≤ 100) : ∀ x ∈ A ++ [r], x.fits := fun x hx => by
  rw [List.mem_append, List.mem_singleton] at hx
  rcases hx with hx | rfl
  · exact (h.small (by omega) h0 h1 x hx).fits
  · exact (hr.small (by omega) (by omega) (by omega) (by omega)).fits
/-- With a last one. -/
theorem again_last (h : PlnL 1 4 A) (hA : A.length ≤ 12) (hO : IsOrd O A) (hr : Pln 100 0 0 r) : Again (O ++ [r]) (A ++ [r]) where
  len := by rw [List.length_append, List.length_singleton]; omega
  fits := pln_fits h hA (by omega) (by omega) hr (by omega) (by omega)
  few M hM := by
    have := actR_len_le hM
    rw [List.length_append, List.length_singleton] at this
    omega
  ord O' hO' := isOrd_last hO (hO'.whole (pln_right h (by omega) (by omega) hr (by omega) (by omega)) (pln_more h hA hr)) fun x hx => by
    obtain ⟨k, hk, hp⟩ := h.mem hx
    refine cmpB_prio ?_
    have h1 := hp.p0
    have h2 := hr.p1
    omega
/-- With a first one. -/
theorem again_first (h : PlnL 1 4 A) (hA : A.length ≤ 12) (hO : IsOrd O A) (hr : Pln 100 100 100 r) : Again (r :: O) (A ++ [r]) where
  len := by rw [List.length_append, List.length_singleton]; omega
  fits := pln_fits h hA (by omega) (by omega) hr (by omega) (by omega)
  few M hM := by
    have := actR_len_le hM
    rw [List.length_append, List.length_singleton] at this
    omega
  ord O' hO' := isOrd_first hO (hO'.whole (pln_right h (by omega) (by omega) hr (by omega) (by omega)) (pln_more h hA hr)) fun x hx => by
    obtain ⟨k, hk, hp⟩ := h.mem hx
    refine cmpB_prio ?_
    have h1 := hp.p1
    have h2 := hr.p0
    omega
theorem again_all (h : PlnL 1 4 A) (hA : A.length ≤ 12) (hO : ActOrd A O) : Again O A where
  len := by omega
  fits r hr := (h.small (by omega) (by omega) (by omega) r hr).fits
  few M hM := by
    have := actR_len_le hM
    omega
  ord _O' hO' := (h.ord (by omega) (by omega) hO').same (h.ord (by omega) (by omega) hO) fun _ => Iff.rfl
end
section
variable {L : List Off} {M : List Seat} {most : Int} {A O : List Req} {r : Req} {s : Seat}
/-- A seat that waits does not fit: with it, the seats are not permitted. -/
theorem wait_bad (hc : Calm L) (h : PlnL 1 4 A) (hA : A.length ≤ 12) (hO : IsOrd O A) (hs : s ∈ (dealP L M most O).waits) : ¬ checkP L M most ((dealP L M most O).seats ++ [s]) ((dealP L M most O).seats ++ [s]).length = 0 := by
  rw [checkP_ok, okS_snoc]
  rintro ⟨_, h2⟩
  have lO := hO.1.length_eq
  exact waits_unfit hc O (fun r hr => h.give r (hO.1.mem_iff.1 hr)) (by omega) hs h2
theorem last_seats (hr : r.give.size = 0) : (dealP L M most (O ++ [r])).seats.take (dealP L M most O).seats.length = (dealP L M most O).seats ∧ (dealP L M most O).seats.length ≤ (dealP L M most (O ++ [r])).seats.length ∧ (dealP L M most (O ++ [r])).seats.length ≤ (dealP L M most O).seats.length + 1 := by
  rcases deal_last (L := L) (met := M) (most := most) (O := O) hr with e | e <;> rw [e]
  · exact ⟨List.take_length, Nat.le_refl _, Nat.le_succ _⟩
  · refine ⟨by simp, by simp, by simp⟩
theorem first_seat (hc : Calm L) (h : PlnL 1 4 A) (hA : A.length ≤ 12) (hO : IsOrd O A) (hr : Pln 100 100 100 r) : ((dealP L M most (r :: O)).seats[0]? = some (seatOf r)) ↔ fitsP L M most [] (seatOf r) = 0 := by
  rw [← List.head?_eq_getElem?]
  have lO := hO.1.length_eq
  refine deal_first hc (fun x hx => ?_) (by omega)
  rcases List.mem_cons.1 hx with rfl | hx
  · exact hr.none
  · exact h.give x (hO.1.mem_iff.1 hx)
theorem fs_one (x : Seat) : checkP L M most [x] 1 = fitsP L M most [] x := by
  show (if (0 : Int) = 0 then fitsP L M most [] x else 0) = _
  simp
end
end Go.Proofs.Ytjcogpalmgcpbaa
