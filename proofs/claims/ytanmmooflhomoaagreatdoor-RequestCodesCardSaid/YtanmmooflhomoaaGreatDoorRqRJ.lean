/- The reference's Join and Active. -/
import Derived.Test.YtanmmooflhomoaaGreatDoorRqPut
import Derived.Test.YtanmmooflhomoaaGreatDoorRqPl
import Derived.Test.YtanmmooflhomoaaGreatDoorRqChf
import Derived.Test.YtanmmooflhomoaaGreatDoorRqLs
import Derived.Test.YtanmmooflhomoaaGreatDoorLoad
namespace Go.Proofs.YtanmmooflhomoaaGreatDoor
open Go Go.Proofs Go.RowKit Go.Sort Go.Lib
attribute [local go_sem] Req.cells

/-- A list in order comes back. -/
def RetSet (L : List Req) (w : World) (x : Ending) (w' : World) : Prop := ∃ v M, x = .returned v ∧ IsSet M L ∧ ReqsIn w' v M ∧ RowKit.Below w.heap.size w w'
set_option maxHeartbeats 4000000 in
set_option maxRecDepth 100000 in
theorem refJoin_any (a b : Value) (A B : List Req) (w : World) (ha : ReqsIn w a A) (hb : ReqsIn w b B) (hl : A.length + B.length ≤ 900) :
    Calls Tryz.prog 10 #[a, b] w (RetSet (A ++ B) w) := by
  obtain ⟨sa, ca, rfl, _⟩ := ha.form
  obtain ⟨sb, cb, rfl, _⟩ := hb.form
  have HA := Lib.hid ha
  have HB := Lib.hid hb
  clear ha hb
  go_enter Tryz.func10, Tryz.ntmps10
  go_wp2_with fail
  go_loopw [5, 6] (fun v i wr => ∃ (k : Nat) (M : List Req), k ≤ A.length ∧ i = .int .i64 k ∧ Hid (IsSet M (A.take k)) ∧ ReqsIn wr v M ∧ RowKit.Below w.heap.size w wr) (fun _ i _ => A.length - (RowKit.intOf i).toNat)
  case atStart => exact ⟨0, [], Nat.zero_le _, rfl, Lib.hid isSet_nil, .inl ⟨rfl, rfl⟩, Below.refl _ _⟩
  case round =>
    obtain ⟨k, M, hk, rfl, HM, hv, hbr⟩ := hrel
    by_cases hlt : k < A.length
    · obtain ⟨ga, oa, ca', hva, _, hgl, hat⟩ := HA.out.at_ (by omega)
      have e1 := (Value.slice.inj hva).1
      subst e1
      have hx := List.getElem?_eq_getElem hlt
      generalize A[k] = x at hx
      have haty := (hat k x hx).below hbr hgl
      have hml := put_len HM.out
      have cp := put_any _ M (A.take k) x wr hv HM.out (by simp at hml; omega)
      have HX := Lib.hid hx
      clear hva hat hml hx
      go_wp2_with ((with_reducible refine wpList_load_mid (op := ⟨some 18, _, _, _, _, _⟩) ?_ 46 (.tmp 17) ?_ ga (oa + k * 9) ?_ (Req.cells x).toList _ ?_ Tryz.underlying46 ?_ ?_ ?_); rfl; rfl; rfl; exact haty; rfl; kernel_rfl)
      refine cp.mono ?_
      rintro _ w3 ⟨v', M', rfl, hM', _, hr, hb⟩
      have HM' := Lib.hid (show IsSet M' (A.take (k + 1)) by rw [take_snoc HX.out]; exact hM')
      clear hM' cp haty
      go_wp2_with fail
      go_roundw
      case rel => exact ⟨k + 1, M', by omega, by go_num, HM', hr, below_next hbr hb⟩
      case measure => simp [RowKit.intOf]; omega
    · obtain rfl : k = A.length := by omega
      have HM2 : Hid (IsSet M A) := Lib.hid (by have := HM.out; rwa [List.take_length] at this)
      clear HM hlt hk
      go_wp2_with fail
      obtain ⟨wo, rfl⟩ : ∃ wo, wo = wr := ⟨_, rfl⟩
      go_loopw [5, 7] (fun v i wr => ∃ (k : Nat) (M : List Req), k ≤ B.length ∧ i = .int .i64 k ∧ Hid (IsSet M (A ++ B.take k)) ∧ ReqsIn wr v M ∧ RowKit.Below wo.heap.size wo wr) (fun _ i _ => B.length - (RowKit.intOf i).toNat)
      case atStart => exact ⟨0, M, Nat.zero_le _, rfl, Lib.hid (by rw [List.take_zero, List.append_nil]; exact HM2.out), hv, Below.refl _ _⟩
      case round =>
        clear HM2 hv
        obtain ⟨k, M, hk, rfl, HM, hv, hb1⟩ := hrel
        have hbw := below_next hbr hb1
        by_cases hlt : k < B.length
        · obtain ⟨gb, ob, cb', hvb, _, hgl, hat⟩ := HB.out.at_ (by omega)
          have e1 := (Value.slice.inj hvb).1
          subst e1
          have hx := List.getElem?_eq_getElem hlt
          generalize B[k] = x at hx
          have haty := (hat k x hx).below hbw hgl
          have hml := put_len HM.out
          have cp := put_any _ M (A ++ B.take k) x wr hv HM.out (by simp at hml; omega)
          have HX := Lib.hid hx
          clear hvb hat hml hx
          go_wp2_with ((with_reducible refine wpList_load_mid (op := ⟨some 30, _, _, _, _, _⟩) ?_ 46 (.tmp 29) ?_ gb (ob + k * 9) ?_ (Req.cells x).toList _ ?_ Tryz.underlying46 ?_ ?_ ?_); rfl; rfl; rfl; exact haty; rfl; kernel_rfl)
          refine cp.mono ?_
          rintro _ w3 ⟨v', M', rfl, hM', _, hr, hb⟩
          have HM' := Lib.hid (show IsSet M' (A ++ B.take (k + 1)) by rw [take_snoc HX.out, ← List.append_assoc]; exact hM')
          clear hM' cp haty hbw
          go_wp2_with fail
          go_roundw
          case rel => exact ⟨k + 1, M', by omega, by go_num, HM', hr, below_next hb1 hb⟩
          case measure => simp [RowKit.intOf]; omega
        · obtain rfl : k = B.length := by omega
          go_wp2_with fail
          go_ret
          exact ⟨_, M, rfl, by have := HM.out; rwa [List.take_length] at this, hv, hbw⟩

/-! What the reference's Active does to a set in order. -/
theorem cmpR_num {a b : Req} (h : cmpR a b < 0) : a.server < b.server ∨ (a.server = b.server ∧ a.seq ≤ b.seq) := by
  have hl : lessR a b = true := decide_eq_true h
  rw [show lessR a b = _ from lessR_lit a.server a.seq a.cancel a.student a.term a.code a.give a.priority a.day b.server b.seq b.cancel b.student b.term b.code b.give b.priority b.day] at hl
  by_cases h0 : a.server = b.server
  · by_cases h1 : a.seq = b.seq
    · omega
    · simp [h0, h1] at hl; omega
  · simp [h0] at hl; omega
def firstOk (G : List Req) : Option Req := G.find? fun x => decide (chkR x = 0)
theorem stK_mem : ∀ (L : List Req) (K : List (Int × Int)) (q : Int × Int), q ∈ K → q ∈ stK K L
  | [], _, _, h => h
  | x :: L, K, q, h => stK_mem L (nextK K x) q (by unfold nextK; split <;> simp [h])
theorem stK_not : ∀ (L : List Req) (K : List (Int × Int)) (q : Int × Int), q ∉ K → (∀ x ∈ L, numR x ≠ q) → q ∉ stK K L
  | [], _, _, h, _ => h
  | x :: L, K, q, h, hx => stK_not L (nextK K x) q (by
      unfold nextK
      split
      · exact h
      · intro hm
        rcases List.mem_cons.1 hm with e | hm
        · exact hx x (by simp) e.symm
        · exact h hm) fun y hy => hx y (by simp [hy])
theorem group_in : ∀ (G : List Req) (K : List (Int × Int)) (q : Int × Int), q ∈ K → (∀ x ∈ G, numR x = q) → keepR K G = []
  | [], _, _, _, _ => rfl
  | x :: G, K, q, h, hx => by
    have hg : goneR K x = true := (goneR_iff K x).2 (.inl (by rw [hx x (by simp)]; exact h))
    show (if goneR K x = true then [] else [x]) ++ keepR (nextK K x) G = []
    rw [if_pos hg, List.nil_append, show nextK K x = K by unfold nextK; rw [if_pos hg]]
    exact group_in G K q h fun y hy => hx y (by simp [hy])
theorem group_out : ∀ (G : List Req) (K : List (Int × Int)) (q : Int × Int), q ∉ K → (∀ x ∈ G, numR x = q) → keepR K G = (firstOk G).toList
  | [], _, _, _, _ => rfl
  | x :: G, K, q, h, hx => by
    show (if goneR K x = true then [] else [x]) ++ keepR (nextK K x) G = _
    have hnx := hx x (by simp)
    by_cases hc : chkR x = 0
    · have hg : goneR K x = false := by
        rw [Bool.eq_false_iff, Ne, goneR_iff, hnx]
        rintro (h' | h')
        · exact h h'
        · exact h' hc
      rw [hg, if_neg (by simp), show nextK K x = (x.server, x.seq) :: K by unfold nextK; rw [hg, if_neg (by simp)]]
      rw [group_in G _ q (by rw [← hnx]; simp [numR]) fun y hy => hx y (by simp [hy])]
      simp [firstOk, hc]
    · have hg : goneR K x = true := (goneR_iff K x).2 (.inr hc)
      rw [if_pos hg, List.nil_append, show nextK K x = K by unfold nextK; rw [if_pos hg], group_out G K q h fun y hy => hx y (by simp [hy])]
      simp [firstOk, hc]
/-- Up to place e all of a number are there. -/
def CutAt (M : List Req) (e : Nat) : Prop := ∀ x ∈ M.take e, ∀ y ∈ M.drop e, numR x ≠ numR y
theorem cut_zero (M : List Req) : CutAt M 0 := fun x hx => by simp at hx
/-- The group of M[k] ends where the number turns. -/
theorem cut_next {M L : List Req} (hM : IsSet M L) {k e : Nat} (hke : k < e) (hc : CutAt M k) {q : Int × Int} (hq : ∀ x ∈ (M.take e).drop k, numR x = q) (hend : ∀ y, M[e]? = some y → numR y ≠ q) : CutAt M e := by
  intro x hx y hy e1
  by_cases hxk : x ∈ M.take k
  · refine hc x hxk y ?_ e1
    obtain ⟨i, hi, rfl⟩ := List.mem_iff_getElem.1 hy
    rw [List.mem_iff_getElem]
    refine ⟨e - k + i, by simp at hi ⊢; omega, ?_⟩
    simp only [List.getElem_drop]
    congr 1; omega
  · have hxG : x ∈ (M.take e).drop k := by
      rw [← List.take_append_drop k (M.take e)] at hx
      rcases List.mem_append.1 hx with h | h
      · rw [List.take_take, Nat.min_eq_left (by omega)] at h; exact absurd h hxk
      · exact h
    have hxq := hq x hxG
    obtain ⟨i, hi, rfl⟩ := List.mem_iff_getElem.1 hy
    have hlen : e < M.length := by simp at hi; omega
    have hne := hend M[e] (List.getElem?_eq_getElem hlen)
    -- x stands ahead of M[e], M[e] at or ahead of y
    obtain ⟨j, hj, rfl⟩ := List.mem_iff_getElem.1 hx
    have hje : j < e := by simp at hj; omega
    rw [List.getElem_take] at hxq e1
    have c1 := cmpR_num (List.pairwise_iff_getElem.1 hM.1 j e (by omega) hlen hje)
    rw [List.getElem_drop] at e1
    have hxy : numR M[e] = numR M[j] := by
      rcases Nat.eq_zero_or_pos i with h0 | h0
      · subst h0; simp only [Nat.add_zero] at e1; exact e1.symm
      · have c2 := cmpR_num (List.pairwise_iff_getElem.1 hM.1 e (e + i) hlen (by simp at hi; omega) (by omega))
        simp only [numR, Prod.mk.injEq] at e1 ⊢
        omega
    exact hne (hxy.trans hxq)
/-- What a group adds. -/
theorem group_step {M L : List Req} (_hM : IsSet M L) {k e : Nat} (hke : k < e) (hc : CutAt M k) (hce : CutAt M e) {q : Int × Int} (hq : ∀ x ∈ (M.take e).drop k, numR x = q) (hne : ∃ x, x ∈ (M.take e).drop k) :
    keepR (canK M) (M.take e) = keepR (canK M) (M.take k) ++ (if ((M.take e).drop k).any (·.cancel) = true then [] else (firstOk ((M.take e).drop k)).toList) := by
  have hs : M.take e = M.take k ++ (M.take e).drop k := by
    conv => lhs; rw [← List.take_append_drop k (M.take e)]
    rw [List.take_take, Nat.min_eq_left (by omega)]
  conv => lhs; rw [hs]
  rw [keepR_app]
  congr 1
  obtain ⟨x0, hx0⟩ := hne
  have hin : ∀ y, y ∈ (M.take e).drop k → y ∈ M.drop k := fun y hy => by
    obtain ⟨i, hi, rfl⟩ := List.mem_iff_getElem.1 hy
    simp only [List.getElem_drop, List.getElem_take]
    rw [List.mem_iff_getElem]
    exact ⟨i, by simp at hi ⊢; omega, by simp [List.getElem_drop]⟩
  have hcan : q ∈ canK M ↔ ((M.take e).drop k).any (·.cancel) = true := by
    rw [canK_mem, List.any_eq_true]
    constructor
    · rintro ⟨x, hx, h1, h2⟩
      refine ⟨x, ?_, h1⟩
      rw [← List.take_append_drop e M, hs] at hx
      rcases List.mem_append.1 hx with hx | hx
      · rcases List.mem_append.1 hx with hx | hx
        · exact absurd (h2.trans (hq x0 hx0).symm) (hc x hx x0 (hin x0 hx0))
        · exact hx
      · exact absurd ((hq x0 hx0).trans h2.symm) (hce x0 (List.mem_of_mem_drop hx0) x hx)
    · rintro ⟨x, hx, h1⟩
      exact ⟨x, List.mem_of_mem_take (List.mem_of_mem_drop hx), h1, hq x hx⟩
  by_cases h : ((M.take e).drop k).any (·.cancel) = true
  · rw [if_pos h]
    exact group_in _ _ q (stK_mem _ _ _ (hcan.2 h)) hq
  · rw [if_neg h]
    refine group_out _ _ q (stK_not _ _ _ (fun h' => h (hcan.1 h')) fun x hx e1 => ?_) hq
    exact hc x hx x0 (hin x0 hx0) (e1.trans (hq x0 hx0).symm)
theorem seg_snoc {M : List Req} {k e : Nat} {y : Req} (hke : k ≤ e) (hy : M[e]? = some y) : (M.take (e + 1)).drop k = (M.take e).drop k ++ [y] := by
  have hl : e < M.length := (List.getElem?_eq_some_iff.1 hy).1
  rw [take_snoc hy, List.drop_append_of_le_length (by simp; omega)]
theorem firstOk_snoc (G : List Req) (y : Req) : firstOk (G ++ [y]) = (firstOk G).or (if chkR y = 0 then some y else none) := by
  unfold firstOk
  rw [List.find?_append]
  congr 1
  by_cases h : chkR y = 0 <;> simp [h]
end Go.Proofs.YtanmmooflhomoaaGreatDoor
