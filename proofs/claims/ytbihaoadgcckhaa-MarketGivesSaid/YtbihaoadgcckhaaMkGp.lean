/- MarketGives in plain words: two requests, of which the second gives what the first asks for. -/
import Derived.Test.YtbihaoadgcckhaaMkMe
import Derived.Test.YtbihaoadgcckhaaMkSn
import Derived.Test.YtbihaoadgcckhaaMkLf
namespace Go.Proofs.Ytbihaoadgcckhaa
open Go Go.Proofs Go.RowKit Go.Maps Go.Sort Go.Lib

def givA (s : Int) (g : ByteArray) : Req := { server := 1, seq := 1, cancel := false, student := s, term := 4, code := g, give := ⟨#[]⟩, priority := 2, day := 400 }
def givB (s : Int) (g c : ByteArray) : Req := { server := 1, seq := 2, cancel := false, student := s, term := 4, code := c, give := g, priority := 1, day := 400 }
section
variable {L : List Off} {M : List Seat} {most s : Int} {g c : ByteArray}
theorem codes_right : ∀ g ∈ codesL, codeL g.data.toList = true := by decide
theorem codes_size : ∀ g ∈ codesL, g.size = 2 := by decide
theorem chk_right (q : Int) (k : ByteArray) (p : Int) (h1 : 1 ≤ s) (h5 : s ≤ 5) (hc : c ∈ codesL) (hk : k = ⟨#[]⟩ ∨ k ∈ codesL) (hne : k ≠ c) (hq : 1 ≤ q) (hp0 : 0 ≤ p) (hp1 : p ≤ 100) : chkR ⟨1, q, false, s, 4, c, k, p, 400⟩ = 0 := by
  have heq : ¬ eqReq ⟨1, q, false, s, 4, c, k, p, 400⟩ ⟨1, q, true, 0, 0, ⟨#[]⟩, ⟨#[]⟩, 0, 0⟩ = true := fun e => by
    have := congrArg Req.cancel ((eqReq_iff _ _).1 e)
    cases this
  have hgv : ¬ (k.toList ≠ [] ∧ codeL k.data.toList = false) := by
    rintro ⟨h, h2⟩
    rcases hk with rfl | hk
    · exact h (by rw [ByteArray.toList_eq])
    · rw [codes_right k hk] at h2; cases h2
  have hkc : ¬ (k.toList == c.toList) = true := by rw [beq_iff_eq, req_ba]; exact hne
  rw [chkR_eq, if_neg (by omega), if_neg (by omega), if_neg (by omega), if_neg heq, if_neg (by decide), if_neg (by omega), if_neg (by omega), if_neg (by omega), if_neg (by omega), if_neg (by omega), if_neg (by omega),
    if_neg (by rw [codes_right c hc]; decide), if_neg hgv, if_neg hkc, if_neg (by decide)]
theorem giv_chk (h1 : 1 ≤ s) (h5 : s ≤ 5) (hg : g ∈ codesL) (hc : c ∈ codesL) (hne : g ≠ c) : ∀ r ∈ [givA s g, givB s g c], chkR r = 0 ∧ r.cancel = false := by
  intro r hr
  simp only [List.mem_cons, List.not_mem_nil, or_false] at hr
  rcases hr with rfl | rfl
  · exact ⟨chk_right 1 ⟨#[]⟩ 2 h1 h5 hg (.inl rfl) (fun e => by have := codes_size g hg; rw [← e] at this; cases this) (by omega) (by omega) (by omega), rfl⟩
  · exact ⟨chk_right 2 g 1 h1 h5 hc (.inr hg) hne (by omega) (by omega) (by omega), rfl⟩
theorem giv_ord (h1 : 1 ≤ s) (h5 : s ≤ 5) (hg : g ∈ codesL) (hc : c ∈ codesL) (hne : g ≠ c) : ∀ O, ActOrd [givA s g, givB s g c] O → O = [givA s g, givB s g c] := by
  refine ord_is (giv_chk h1 h5 hg hc hne) ?_ ⟨List.Perm.refl _, ?_⟩
  · refine List.pairwise_cons.2 ⟨fun b hb => ?_, List.pairwise_singleton _ _⟩
    rw [List.mem_singleton] at hb
    subst hb
    intro e
    have := congrArg Prod.snd e
    simp [numR, givA, givB] at this
  · refine List.pairwise_cons.2 ⟨fun b hb => ?_, List.pairwise_singleton _ _⟩
    rw [List.mem_singleton] at hb
    subst hb
    exact cmpB_prio (by show (1 : Int) < 2; omega)
theorem check_one (x : Seat) : checkP L M most [x] 1 = fitsP L M most [] x := by
  show (if (0 : Int) = 0 then fitsP L M most [] x else 0) = _
  simp
theorem giv_two (hg : g.size ≠ 0) (hne : g ≠ c) : dealP L M most [givA s g, givB s g c] =
    if fitsP L M most [] ⟨s, g⟩ = 0 then (if fitsP L M most [] ⟨s, c⟩ = 0 then ⟨[⟨s, c⟩], []⟩ else ⟨[⟨s, g⟩], [⟨s, c⟩]⟩) else ⟨[], [⟨s, g⟩, ⟨s, c⟩]⟩ := by
  have ha : stepD L M most ⟨[], []⟩ (givA s g) = if fitsP L M most [] ⟨s, g⟩ = 0 then ⟨[⟨s, g⟩], []⟩ else ⟨[], [⟨s, g⟩]⟩ := by
    have hfa : fineD [] (givA s g) = true := rfl
    have hoa : othersD [] (givA s g) = [] := rfl
    unfold stepD
    simp only [hfa, hoa]
    simp [seatOf, givA]
  have hdef : dealP L M most [givA s g, givB s g c] = stepD L M most (stepD L M most ⟨[], []⟩ (givA s g)) (givB s g c) := rfl
  rw [hdef, ha]
  have hsc : (⟨s, c⟩ : Seat) ≠ ⟨s, g⟩ := fun e => hne (by injection e with _ e2; exact e2.symm)
  by_cases h : fitsP L M most [] ⟨s, g⟩ = 0
  · rw [if_pos h, if_pos h]
    unfold stepD
    have ho : othersD [⟨s, g⟩] (givB s g c) = [] := by
      unfold othersD
      rw [if_neg (show ¬ (givB s g c).give.size = 0 from hg)]
      simp [giveOf, givB]
    have hf : fineD [⟨s, g⟩] (givB s g c) = true := by simp [fineD, giveOf, givB]
    simp only [ho, hf]
    by_cases h2 : fitsP L M most [] ⟨s, c⟩ = 0
    · simp [seatOf, givB, h2]
    · simp [seatOf, givB, h2]
  · rw [if_neg h, if_neg h]
    unfold stepD
    have hf : fineD [] (givB s g c) = false := by simp [fineD, giveOf, givB, hg]
    simp only [hf]
    simp [seatOf, givB, hsc]
theorem giv_left (hL : GoodL 6 L) (h : fitsP L M most [] ⟨s, g⟩ = 0) : 0 ≤ (getO L g).places ∧ (getO L g).places ≤ 1000000000 ∧ (g ≠ c → 0 < leftP L ⟨[⟨s, c⟩], []⟩ g) := by
  unfold fitsP at h
  simp only [] at h
  split at h
  · omega
  rename_i h0
  split at h
  · omega
  split at h
  · omega
  split at h
  · omega
  rename_i h3
  have hm : getO L g ∈ L := by
    unfold getO
    cases hf : findO L g with
    | none => rw [hf] at h0; simp at h0
    | some o => exact List.mem_of_find?_eq_some hf
  have hG := hL.1 _ hm
  have p0 := hG.p0
  have p1 := hG.p1
  refine ⟨p0, by omega, fun hne => ?_⟩
  have ht : takenF [⟨s, c⟩] g = 0 := by
    unfold takenF
    rw [List.countP_eq_zero]
    intro x hx
    rw [List.mem_singleton] at hx
    subst hx
    rw [decide_eq_true_eq, req_ba]
    exact fun e => hne e.symm
  have ht0 : takenF [] g = 0 := rfl
  rw [ht0] at h3
  unfold leftP
  rw [show (Deal.mk [⟨s, c⟩] []).seats = [⟨s, c⟩] from rfl, ht]
  omega
end
end Go.Proofs.Ytbihaoadgcckhaa
