/- The deal of requests: what is active, in its order. -/
import Derived.Test.YtjcogpalmgcpbaaMkPl2
namespace Go.Proofs.Ytjcogpalmgcpbaa
open Go Go.Proofs Go.RowKit Go.Sort Go.Lib

theorem mk_act_mem {M : List Req} {x : Req} (h : x ∈ actR M) : x ∈ M ∧ numR x ∉ canK M ∧ chkR x = 0 ∧ x.cancel = false := by
  obtain ⟨h1, h2, h3⟩ := keepR_mem M (canK M) x h
  refine ⟨h1, h2, h3, ?_⟩
  cases hc : x.cancel with
  | false => rfl
  | true => exact absurd ((canK_mem M _).2 ⟨x, h1, hc, rfl⟩) h2
theorem keepR_whole : ∀ (A : List Req) (K : List (Int × Int)), (∀ r ∈ A, chkR r = 0) → (A.Pairwise fun a b => numR a ≠ numR b) → (∀ r ∈ A, numR r ∉ K) → keepR K A = A
  | [], _, _, _, _ => rfl
  | x :: A, K, h1, h2, h3 => by
    have hg : ¬ goneR K x = true := by
      rw [goneR_iff]; rintro (h | h)
      · exact h3 x (by simp) h
      · exact h (h1 x (by simp))
    rw [List.pairwise_cons] at h2
    unfold keepR
    rw [if_neg hg, keepR_whole A _ (fun r hr => h1 r (by simp [hr])) h2.2 fun r hr hm => ?_]
    · rfl
    · unfold nextK at hm
      rw [if_neg hg] at hm
      rcases List.mem_cons.1 hm with e | hm
      · exact h2.1 r hr e.symm
      · exact h3 r (by simp [hr]) hm
/-- Right requests, none of them a cancellation, with numbers of their own: all are active. -/
theorem actR_whole {A : List Req} (h : ∀ r ∈ A, chkR r = 0 ∧ r.cancel = false) (hn : A.Pairwise fun a b => numR a ≠ numR b) : actR A = A := by
  unfold actR
  refine keepR_whole A _ (fun r hr => (h r hr).1) hn fun r hr hm => ?_
  obtain ⟨x, hx, hc, _⟩ := (canK_mem A _).1 hm
  rw [(h x hx).2] at hc; cases hc
theorem actR_nums (M : List Req) : (actR M).Pairwise fun a b => numR a ≠ numR b := keepR_nums M _
theorem actR_sorted {M : List Req} (h : M.Pairwise fun a b => cmpR a b < 0) : (actR M).Pairwise fun a b => cmpR a b < 0 := by
  have hs : ∀ (L : List Req) (K : List (Int × Int)), (keepR K L).Sublist L := by
    intro L
    induction L with
    | nil => exact fun _ => List.Sublist.refl _
    | cons x L ih =>
      intro K
      unfold keepR
      by_cases hg : goneR K x = true
      · rw [if_pos hg]; exact (ih _).cons _
      · rw [if_neg hg]; exact (ih _).cons_cons _
  exact h.sublist (hs M _)
theorem actR_set {M L : List Req} (h : IsSet M L) : IsSet (actR M) (actR M) := ⟨actR_sorted h.1, fun _ => Iff.rfl⟩
theorem actR_idem (M : List Req) : actR (actR M) = actR M := actR_whole (fun _r hr => ⟨(mk_act_mem hr).2.2.1, (mk_act_mem hr).2.2.2⟩) (actR_nums M)
/-- O: the active ones of R, in the order in which they are dealt with. -/
def ActOrd (R O : List Req) : Prop := ∃ M, IsSet M R ∧ IsOrd O (actR M)
theorem ActOrd.same {R R' O O' : List Req} (h : ActOrd R O) (h' : ActOrd R' O') (e : ∀ r, r ∈ R ↔ r ∈ R') : O = O' := by
  obtain ⟨M, h1, h2⟩ := h
  obtain ⟨M', h1', h2'⟩ := h'
  obtain rfl := h1.eq h1' e
  exact h2.same h2' fun _ => Iff.rfl
theorem ActOrd.active {R O O' M : List Req} (hM : IsSet M R) (h : ActOrd R O) (h' : ActOrd (actR M) O') : O = O' := by
  obtain ⟨M1, h1, h2⟩ := h
  obtain ⟨M2, h1', h2'⟩ := h'
  obtain rfl := hM.same h1
  obtain rfl := h1'.same (actR_set hM)
  rw [actR_idem] at h2'
  exact h2.same h2' fun _ => Iff.rfl
theorem ActOrd.mem {R O M : List Req} (hM : IsSet M R) (h : ActOrd R O) (r : Req) : r ∈ O ↔ r ∈ actR M := by
  obtain ⟨M1, h1, h2⟩ := h
  obtain rfl := hM.same h1
  exact h2.1.mem_iff
theorem ActOrd.sub {R O : List Req} (h : ActOrd R O) {r : Req} (hr : r ∈ O) : r ∈ R ∧ chkR r = 0 ∧ r.cancel = false := by
  obtain ⟨M, h1, h2⟩ := h
  have h3 := mk_act_mem (h2.1.mem_iff.1 hr)
  exact ⟨(h1.2 r).1 h3.1, h3.2.2⟩
theorem ActOrd.len {R O : List Req} (h : ActOrd R O) : O.length ≤ R.length := by
  obtain ⟨M, h1, h2⟩ := h
  have hnd : O.Nodup := h2.1.nodup_iff.2 ((actR_nums M).imp fun hab e => hab (by rw [e]))
  exact nodup_le O R hnd fun r hr => (h1.2 r).1 (mk_act_mem (h2.1.mem_iff.1 hr)).1
/-- Right requests with numbers of their own: they themselves, in order. -/
theorem ActOrd.whole {R O : List Req} (hr : ∀ r ∈ R, chkR r = 0 ∧ r.cancel = false) (hn : R.Pairwise fun a b => numR a ≠ numR b) (h : ActOrd R O) : IsOrd O R := by
  obtain ⟨M, h1, h2⟩ := h
  have hp : M.Perm R := (List.perm_ext_iff_of_nodup h1.nodup (hn.imp fun hab e => hab (by rw [e]))).2 h1.2
  have e : actR M = M := actR_whole (fun r hm => hr r ((h1.2 r).1 hm)) ((List.Perm.pairwise_iff (fun {a b} h e => h e.symm) hp).2 hn)
  rw [e] at h2
  exact ⟨h2.1.trans hp, h2.2⟩
/-- One that comes last; one that comes first. -/
theorem isOrd_last {O O' R : List Req} {r : Req} (h : IsOrd O R) (h' : IsOrd O' (R ++ [r])) (hl : ∀ x ∈ R, cmpB x r < 0) : O' = O ++ [r] := by
  refine h'.same (A' := R ++ [r]) ⟨h.1.append_right _, ?_⟩ fun _ => Iff.rfl
  rw [List.pairwise_append]
  exact ⟨h.2, List.pairwise_singleton _ _, fun a ha b hb => by simp at hb; subst hb; exact hl a (h.1.mem_iff.1 ha)⟩
theorem isOrd_first {O O' R : List Req} {r : Req} (h : IsOrd O R) (h' : IsOrd O' (R ++ [r])) (hl : ∀ x ∈ R, cmpB r x < 0) : O' = r :: O := by
  refine h'.same (A' := r :: R) ⟨h.1.cons _, ?_⟩ fun x => by simp [or_comm]
  exact List.pairwise_cons.2 ⟨fun a ha => hl a (h.1.mem_iff.1 ha), h.2⟩
theorem cmpB_prio {a b : Req} (h : b.priority < a.priority) : cmpB a b < 0 := by
  unfold cmpB Lib.compareInt
  rw [if_pos h]; simp
end Go.Proofs.Ytjcogpalmgcpbaa
