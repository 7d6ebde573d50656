/- Plain laws of sets of requests: what is missing, what is active. -/
import Derived.Test.YtjcogpalmgcpbaaRqPutL
import Derived.Test.YtjcogpalmgcpbaaRqAc2
namespace Go.Proofs.Ytjcogpalmgcpbaa
open Go Go.Proofs Go.RowKit Go.Sort Go.Lib

theorem IsSet.nodup {M L : List Req} (h : IsSet M L) : M.Nodup := h.1.imp fun {a b} hlt e => by subst e; exact cmpR_irr _ hlt
theorem IsSet.eq {M M' L L' : List Req} (h : IsSet M L) (h' : IsSet M' L') (e : ∀ r, r ∈ L ↔ r ∈ L') : M = M' := (h.congr e).same h'
theorem IsSet.filter {M L : List Req} (h : IsSet M L) (p : Req → Bool) : IsSet (M.filter p) (L.filter p) := ⟨h.1.filter p, fun r => by simp [List.mem_filter, h.2 r]⟩
theorem mem_missing {A B : List Req} {r : Req} : r ∈ (A.filter fun r => !B.any (eqReq r)) ↔ r ∈ A ∧ r ∉ B := by
  simp only [List.mem_filter, Bool.not_eq_true', List.any_eq_false, eqReq_iff]
  constructor
  · rintro ⟨h, h'⟩; exact ⟨h, fun hb => h' r hb rfl⟩
  · rintro ⟨h, h'⟩; exact ⟨h, fun x hx e => h' (by rw [e]; exact hx)⟩
section
variable {A B M W J T N : List Req}
theorem missing_join (hM : IsSet M (A.filter fun r => !B.any (eqReq r))) (hW : IsSet W (A ++ B)) (hJ : IsSet J (B ++ M)) : J = W := by
  refine hJ.eq hW fun r => ?_
  have h1 := hM.2 r
  rw [mem_missing] at h1
  rw [List.mem_append, List.mem_append, h1]
  by_cases h : r ∈ B <;> simp [h]
theorem missing_not (hM : IsSet M (A.filter fun r => !B.any (eqReq r))) {r : Req} (hr : r ∈ M) : r ∉ B := (mem_missing.1 ((hM.2 r).1 hr)).2
theorem missing_none (hW : ∀ r ∈ A, r ∈ W) (hN : IsSet N (A.filter fun r => !W.any (eqReq r))) : N = [] := by
  rcases N with _ | ⟨x, t⟩
  · rfl
  · have h := mem_missing.1 ((hN.2 x).1 (by simp))
    exact absurd (hW x h.1) h.2
theorem missing_len (hM : IsSet M (A.filter fun r => !B.any (eqReq r))) (hW : IsSet W (A ++ B)) (hT : IsSet T B) : W.length = T.length + M.length := by
  rw [← List.length_append]
  refine List.Perm.length_eq ((List.perm_ext_iff_of_nodup hW.nodup ?_).2 fun r => ?_)
  · rw [List.nodup_append]
    exact ⟨hT.nodup, hM.nodup, fun a ha b hb e => by subst e; exact missing_not hM hb ((hT.2 a).1 ha)⟩
  · have h1 := hM.2 r
    rw [mem_missing] at h1
    rw [hW.2, List.mem_append, List.mem_append, hT.2, h1]
    by_cases h : r ∈ B <;> simp [h]
end

/-- A request's number. -/
def numR (r : Req) : Int × Int := (r.server, r.seq)
theorem goneR_iff (K : List (Int × Int)) (r : Req) : goneR K r = true ↔ numR r ∈ K ∨ chkR r ≠ 0 := by simp [goneR, numR]
theorem goneR_congr {K K' : List (Int × Int)} (h : ∀ q, q ∈ K ↔ q ∈ K') (r : Req) : goneR K r = goneR K' r := by
  rw [Bool.eq_iff_iff, goneR_iff, goneR_iff, h]
theorem nextK_congr {K K' : List (Int × Int)} (h : ∀ q, q ∈ K ↔ q ∈ K') (r : Req) (q : Int × Int) : q ∈ nextK K r ↔ q ∈ nextK K' r := by
  unfold nextK; rw [goneR_congr h r]; split <;> simp [h]
theorem keepR_congr : ∀ (L : List Req) (K K' : List (Int × Int)), (∀ q, q ∈ K ↔ q ∈ K') → keepR K L = keepR K' L
  | [], _, _, _ => rfl
  | r :: L, K, K', h => by unfold keepR; rw [goneR_congr h r, keepR_congr L _ _ (nextK_congr h r)]
theorem keepR_mem : ∀ (L : List Req) (K : List (Int × Int)) (r : Req), r ∈ keepR K L → r ∈ L ∧ numR r ∉ K ∧ chkR r = 0
  | [], _, _, h => by cases h
  | x :: L, K, r, h => by
    unfold keepR at h
    rcases List.mem_append.1 h with h | h
    · by_cases hg : goneR K x = true
      · rw [if_pos hg] at h; cases h
      · rw [if_neg hg] at h
        obtain rfl : r = x := by simpa using h
        rw [goneR_iff] at hg
        exact ⟨by simp, fun h => hg (.inl h), Decidable.byContradiction fun h => hg (.inr h)⟩
    · obtain ⟨h1, h2, h3⟩ := keepR_mem L _ r h
      refine ⟨by simp [h1], fun hk => h2 ?_, h3⟩
      unfold nextK; split
      · exact hk
      · simp [hk]
theorem keepR_nums : ∀ (L : List Req) (K : List (Int × Int)), (keepR K L).Pairwise fun a b => numR a ≠ numR b
  | [], _ => List.Pairwise.nil
  | x :: L, K => by
    unfold keepR
    by_cases hg : goneR K x = true
    · rw [if_pos hg]; exact keepR_nums L _
    · rw [if_neg hg]
      refine List.pairwise_cons.2 ⟨fun y hy e => (keepR_mem L _ y hy).2.1 ?_, keepR_nums L _⟩
      rw [nextK, if_neg hg, ← e]; simp [numR]
/-- A right one whose number is free has one of its number among what stays. -/
theorem keepR_has : ∀ (L : List Req) (K : List (Int × Int)) (r : Req), r ∈ L → chkR r = 0 → numR r ∉ K → ∃ x ∈ keepR K L, numR x = numR r
  | [], _, _, h, _, _ => by cases h
  | x :: L, K, r, h, hc, hk => by
    unfold keepR
    by_cases hx : goneR K x = false ∧ numR x = numR r
    · exact ⟨x, by simp [hx.1], hx.2⟩
    · have hne : r ∈ L := by
        rcases List.mem_cons.1 h with rfl | h
        · refine absurd ⟨?_, rfl⟩ hx
          rw [Bool.eq_false_iff, Ne, goneR_iff]; rintro (h | h)
          · exact hk h
          · exact h hc
        · exact h
      obtain ⟨y, hy, e⟩ := keepR_has L (nextK K x) r hne hc (by
        unfold nextK
        by_cases hg : goneR K x = true
        · rw [if_pos hg]; exact hk
        · rw [if_neg hg]
          intro hm
          rcases List.mem_cons.1 hm with e | hm
          · exact hx ⟨by simpa using hg, e.symm⟩
          · exact hk hm)
      exact ⟨y, by simp [hy], e⟩
/-- Numbers that are taken from the start. -/
theorem keepR_skip (q : Int × Int) : ∀ (L : List Req) (K : List (Int × Int)), q ∈ K → keepR K L = keepR K (L.filter fun r => decide (numR r ≠ q))
  | [], _, _ => rfl
  | x :: L, K, hq => by
    by_cases hx : numR x = q
    · rw [List.filter_cons_of_neg (by simp [hx])]
      have hg : goneR K x = true := (goneR_iff K x).2 (.inl (hx ▸ hq))
      show (if goneR K x = true then [] else [x]) ++ keepR (nextK K x) L = _
      rw [if_pos hg, show nextK K x = K by unfold nextK; rw [if_pos hg], List.nil_append]
      exact keepR_skip q L K hq
    · rw [List.filter_cons_of_pos (by simp [hx])]
      unfold keepR
      rw [keepR_skip q L (nextK K x) (by unfold nextK; split <;> simp [hq])]
theorem keepR_without (q : Int × Int) : ∀ (L : List Req) (K K' : List (Int × Int)), (∀ p, p ∈ K' ↔ p = q ∨ p ∈ K) → keepR K' L = (keepR K L).filter fun r => decide (numR r ≠ q)
  | [], _, _, _ => rfl
  | x :: L, K, K', h => by
    unfold keepR
    by_cases hx : numR x = q
    · have hg' : goneR K' x = true := (goneR_iff K' x).2 (.inl ((h _).2 (.inl hx)))
      have e1 : nextK K' x = K' := by unfold nextK; rw [if_pos hg']
      rw [e1, if_pos hg', List.nil_append, List.filter_append, keepR_without q L (nextK K x) K' (fun p => by
        rw [h p]; unfold nextK; split
        · rfl
        · simp only [List.mem_cons]
          constructor
          · rintro (h | h) <;> simp [h]
          · rintro (h | h | h)
            · exact .inl h
            · exact .inl (h.trans hx)
            · exact .inr h)]
      split <;> simp [hx]
    · have hgg : goneR K' x = goneR K x := by
        rw [Bool.eq_iff_iff, goneR_iff, goneR_iff, h]; simp [hx]
      rw [hgg, List.filter_append, keepR_without q L (nextK K x) (nextK K' x) (fun p => by
        unfold nextK; rw [hgg]; split
        · exact h p
        · simp only [List.mem_cons, h p]
          constructor
          · rintro (h | h | h) <;> simp [h]
          · rintro (h | h | h) <;> simp [h])]
      split <;> simp [hx]
theorem canK_mem_from : ∀ (M : List Req) (K : List (Int × Int)) (q : Int × Int), q ∈ M.foldl addK K ↔ q ∈ K ∨ ∃ x ∈ M, x.cancel = true ∧ numR x = q
  | [], _, _ => by simp
  | x :: M, K, q => by
    rw [List.foldl_cons, canK_mem_from M (addK K x) q]
    have e : q ∈ addK K x ↔ q ∈ K ∨ (x.cancel = true ∧ numR x = q) := by
      unfold addK
      split
      · rename_i hc
        simp only [List.mem_cons, hc, true_and, numR]
        constructor
        · rintro (h | h)
          · exact .inr h.symm
          · exact .inl h
        · rintro (h | h)
          · exact .inr h
          · exact .inl h.symm
      · rename_i hc; simp [hc]
    rw [e]
    simp only [List.mem_cons, exists_eq_or_imp, or_assoc]
theorem canK_mem (M : List Req) (q : Int × Int) : q ∈ canK M ↔ ∃ x ∈ M, x.cancel = true ∧ numR x = q := by
  unfold canK; rw [canK_mem_from]; simp
/-- A cancellation of a number. -/
def goneOf (r : Req) : Req := ⟨r.server, r.seq, true, 0, 0, ⟨#[]⟩, ⟨#[]⟩, 0, 0⟩
/-- With a cancellation: what was active, without this number. -/
theorem actR_gone {M M' L : List Req} (r : Req) (hM : IsSet M L) (hM' : IsSet M' (goneOf r :: L)) : actR M' = (actR M).filter fun x => decide (numR x ≠ numR r) := by
  unfold actR
  have hk : ∀ p, p ∈ canK M' ↔ p = numR r ∨ p ∈ canK M := fun p => by
    rw [canK_mem, canK_mem]
    constructor
    · rintro ⟨x, hx, hc, rfl⟩
      rcases List.mem_cons.1 ((hM'.2 x).1 hx) with rfl | hl
      · exact .inl rfl
      · exact .inr ⟨x, (hM.2 x).2 hl, hc, rfl⟩
    · rintro (rfl | ⟨x, hx, hc, rfl⟩)
      · exact ⟨goneOf r, (hM'.2 _).2 (by simp), rfl, rfl⟩
      · exact ⟨x, (hM'.2 x).2 (by simp [(hM.2 x).1 hx]), hc, rfl⟩
  have hq : numR r ∈ canK M' := (hk _).2 (.inl rfl)
  rw [keepR_skip (numR r) M' _ hq]
  have e : (M'.filter fun x => decide (numR x ≠ numR r)) = M.filter fun x => decide (numR x ≠ numR r) := by
    refine (hM'.filter _).eq (hM.filter _) fun x => ?_
    simp only [List.mem_filter, List.mem_cons, decide_eq_true_eq]
    constructor
    · rintro ⟨rfl | h, h'⟩
      · exact absurd rfl h'
      · exact ⟨h, h'⟩
    · rintro ⟨h, h'⟩; exact ⟨.inr h, h'⟩
  rw [e, ← keepR_skip (numR r) M _ hq]
  exact keepR_without (numR r) M _ _ hk
theorem filter_one {q : Int × Int} : ∀ (l : List Req), (l.Pairwise fun a b => numR a ≠ numR b) → ∀ r ∈ l, numR r = q → (l.filter fun x => decide (numR x ≠ q)).length = l.length - 1
  | [], _, _, h, _ => by cases h
  | x :: l, hp, r, hr, hq => by
    obtain ⟨p1, p2⟩ := List.pairwise_cons.1 hp
    by_cases hx : numR x = q
    · rw [List.filter_cons_of_neg (by simp [hx]), List.filter_eq_self.2 fun y hy => by
        have := p1 y hy
        simp only [decide_eq_true_eq]
        exact fun e => this (hx.trans e.symm)]
      simp
    · rcases List.mem_cons.1 hr with rfl | hr
      · exact absurd hq hx
      · have hl : 0 < l.length := List.length_pos_of_mem hr
        rw [List.filter_cons_of_pos (by simp [hx]), List.length_cons, filter_one l p2 r hr hq, List.length_cons]
        omega
end Go.Proofs.Ytjcogpalmgcpbaa
