/- Pieces of sanity: regions 9. -/
import Derived.Test.YteopjiedjnaeiaaGreatDgal
import Derived.Test.YteopjiedjnaeiaaGreatDgag
import Derived.Test.YteopjiedjnaeiaaGreatDgac
import Derived.Test.YteopjiedjnaeiaaGreatDgaa
import Derived.Test.YteopjiedjnaeiaaGreatDgak
import Derived.Test.YteopjiedjnaeiaaGreatDgah
import Derived.Test.YteopjiedjnaeiaaGreatDgab
/- The reference's Join and Active. -/
namespace Go.Proofs.YteopjiedjnaeiaaGreat
open Go Go.Proofs Go.RowKit Go.Sort Go.Lib
attribute [local go_sem] Req.cells

/-- A list in order comes back. -/
def RetSet (L : List Req) (w : World) (x : Ending) (w' : World) : Prop := ∃ v M, x = .returned v ∧ IsSet M L ∧ ReqsIn w' v M ∧ RowKit.Below w.heap.size w w'
set_option maxHeartbeats 4000000 in
set_option maxRecDepth 100000 in
theorem refJoin_any (a b : Value) (A B : List Req) (w : World) (ha : ReqsIn w a A) (hb : ReqsIn w b B) (hl : A.length + B.length ≤ 900) :
    Calls Tryz.prog 46 #[a, b] w (RetSet (A ++ B) w) := by
  obtain ⟨sa, ca, rfl, _⟩ := ha.form
  obtain ⟨sb, cb, rfl, _⟩ := hb.form
  have HA := Lib.hid ha
  have HB := Lib.hid hb
  clear ha hb
  go_enter Tryz.func46, Tryz.ntmps46
  go_wp2_with fail
  go_loopw [5, 6] (fun v i wr => ∃ (k : Nat) (M : List Req), k ≤ A.length ∧ i = .int .i64 k ∧ Hid (IsSet M (A.take k)) ∧ ReqsIn wr v M ∧ RowKit.Below w.heap.size w wr) (fun _ i _ => A.length - (RowKit.intOf i).toNat)
  case atStart => exact ⟨0, [], Nat.zero_le _, rfl, Lib.hid isSet_nil, .inl ⟨rfl, rfl⟩, Below.refl _ _⟩
  case round =>
    obtain ⟨k, M, hk, rfl, HM, hv, hbr⟩ := hrel
    by_cases hlt : k < A.length
    · obtain ⟨ga, oa, ca', hva, _, hgl, hat⟩ := HA.out.at_ (by omega)
      have e1 := (Value.slice.inj hva).1
      subst e1
      have hx := List.getElem?_eq_getElem hlt
      generalize A[k] = x at hx
      have haty := (hat k x hx).below hbr hgl
      have hml := put_len HM.out
      have cp := put_any _ M (A.take k) x wr hv HM.out (by simp at hml; omega)
      have HX := Lib.hid hx
      clear hva hat hml hx
      go_wp2_with ((with_reducible refine wpList_load_mid (op := ⟨some 18, _, _, _, _, _⟩) ?_ 39 (.tmp 17) ?_ ga (oa + k * 9) ?_ (Req.cells x).toList _ ?_ Tryz.underlying39 ?_ ?_ ?_); rfl; rfl; rfl; exact haty; rfl; kernel_rfl)
      refine cp.mono ?_
      rintro _ w3 ⟨v', M', rfl, hM', _, hr, hb⟩
      have HM' := Lib.hid (show IsSet M' (A.take (k + 1)) by rw [take_snoc HX.out]; exact hM')
      clear hM' cp haty
      go_wp2_with fail
      go_roundw
      case rel => exact ⟨k + 1, M', by omega, by go_num, HM', hr, below_next hbr hb⟩
      case measure => simp [RowKit.intOf]; omega
    · obtain rfl : k = A.length := by omega
      have HM2 : Hid (IsSet M A) := Lib.hid (by have := HM.out; rwa [List.take_length] at this)
      clear HM hlt hk
      go_wp2_with fail
      obtain ⟨wo, rfl⟩ : ∃ wo, wo = wr := ⟨_, rfl⟩
      go_loopw [5, 7] (fun v i wr => ∃ (k : Nat) (M : List Req), k ≤ B.length ∧ i = .int .i64 k ∧ Hid (IsSet M (A ++ B.take k)) ∧ ReqsIn wr v M ∧ RowKit.Below wo.heap.size wo wr) (fun _ i _ => B.length - (RowKit.intOf i).toNat)
      case atStart => exact ⟨0, M, Nat.zero_le _, rfl, Lib.hid (by rw [List.take_zero, List.append_nil]; exact HM2.out), hv, Below.refl _ _⟩
      case round =>
        clear HM2 hv
        obtain ⟨k, M, hk, rfl, HM, hv, hb1⟩ := hrel
        have hbw := below_next hbr hb1
        by_cases hlt : k < B.length
        · obtain ⟨gb, ob, cb', hvb, _, hgl, hat⟩ := HB.out.at_ (by omega)
          have e1 := (Value.slice.inj hvb).1
          subst e1
          have hx := List.getElem?_eq_getElem hlt
          generalize B[k] = x at hx
          have haty := (hat k x hx).below hbw hgl
          have hml := put_len HM.out
          have cp := put_any _ M (A ++ B.take k) x wr hv HM.out (by simp at hml; omega)
          have HX := Lib.hid hx
          clear hvb hat hml hx
          go_wp2_with ((with_reducible refine wpList_load_mid (op := ⟨some 30, _, _, _, _, _⟩) ?_ 39 (.tmp 29) ?_ gb (ob + k * 9) ?_ (Req.cells x).toList _ ?_ Tryz.underlying39 ?_ ?_ ?_); rfl; rfl; rfl; exact haty; rfl; kernel_rfl)
          refine cp.mono ?_
          rintro _ w3 ⟨v', M', rfl, hM', _, hr, hb⟩
          have HM' := Lib.hid (show IsSet M' (A ++ B.take (k + 1)) by rw [take_snoc HX.out, ← List.append_assoc]; exact hM')
          clear hM' cp haty hbw
          go_wp2_with fail
          go_roundw
          case rel => exact ⟨k + 1, M', by omega, by go_num, HM', hr, below_next hb1 hb⟩
          case measure => simp [RowKit.intOf]; omega
        · obtain rfl : k = B.length := by omega
          go_wp2_with fail
          go_ret
          exact ⟨_, M, rfl, by have := HM.out; rwa [List.take_length] at this, hv, hbw⟩

/-! What the reference's Active does to a set in order. -/
theorem cmpR_num {a b : Req} (h : cmpR a b < 0) : a.server < b.server ∨ (a.server = b.server ∧ a.seq ≤ b.seq) := by
  have hl : lessR a b = true := decide_eq_true h
  rw [show lessR a b = _ from lessR_lit a.server a.seq a.cancel a.student a.term a.code a.give a.priority a.day b.server b.seq b.cancel b.student b.term b.code b.give b.priority b.day] at hl
  by_cases h0 : a.server = b.server
  · by_cases h1 : a.seq = b.seq
    · omega
    · simp [h0, h1] at hl; omega
  · simp [h0] at hl; omega
def firstOk (G : List Req) : Option Req := G.find? fun x => decide (chkR x = 0)
theorem stK_mem : ∀ (L : List Req) (K : List (Int × Int)) (q : Int × Int), q ∈ K → q ∈ stK K L
  | [], _, _, h => h
  | x :: L, K, q, h => stK_mem L (nextK K x) q (by unfold nextK; split <;> simp [h])
theorem stK_not : ∀ (L : List Req) (K : List (Int × Int)) (q : Int × Int), q ∉ K → (∀ x ∈ L, numR x ≠ q) → q ∉ stK K L
  | [], _, _, h, _ => h
  | x :: L, K, q, h, hx => stK_not L (nextK K x) q (by
      unfold nextK
      split
      · exact h
      · intro hm
        rcases List.mem_cons.1 hm with e | hm
        · exact hx x (by simp) e.symm
        · exact h hm) fun y hy => hx y (by simp [hy])
theorem group_in : ∀ (G : List Req) (K : List (Int × Int)) (q : Int × Int), q ∈ K → (∀ x ∈ G, numR x = q) → keepR K G = []
  | [], _, _, _, _ => rfl
  | x :: G, K, q, h, hx => by
    have hg : goneR K x = true := (goneR_iff K x).2 (.inl (by rw [hx x (by simp)]; exact h))
    show (if goneR K x = true then [] else [x]) ++ keepR (nextK K x) G = []
    rw [if_pos hg, List.nil_append, show nextK K x = K by unfold nextK; rw [if_pos hg]]
    exact group_in G K q h fun y hy => hx y (by simp [hy])
theorem group_out : ∀ (G : List Req) (K : List (Int × Int)) (q : Int × Int), q ∉ K → (∀ x ∈ G, numR x = q) → keepR K G = (firstOk G).toList
  | [], _, _, _, _ => rfl
  | x :: G, K, q, h, hx => by
    show (if goneR K x = true then [] else [x]) ++ keepR (nextK K x) G = _
    have hnx := hx x (by simp)
    by_cases hc : chkR x = 0
    · have hg : goneR K x = false := by
        rw [Bool.eq_false_iff, Ne, goneR_iff, hnx]
        rintro (h' | h')
        · exact h h'
        · exact h' hc
      rw [hg, if_neg (by simp), show nextK K x = (x.server, x.seq) :: K by unfold nextK; rw [hg, if_neg (by simp)]]
      rw [group_in G _ q (by rw [← hnx]; simp [numR]) fun y hy => hx y (by simp [hy])]
      simp [firstOk, hc]
    · have hg : goneR K x = true := (goneR_iff K x).2 (.inr hc)
      rw [if_pos hg, List.nil_append, show nextK K x = K by unfold nextK; rw [if_pos hg], group_out G K q h fun y hy => hx y (by simp [hy])]
      simp [firstOk, hc]
/-- Up to place e all of a number are there. -/
def CutAt (M : List Req) (e : Nat) : Prop := ∀ x ∈ M.take e, ∀ y ∈ M.drop e, numR x ≠ numR y
theorem cut_zero (M : List Req) : CutAt M 0 := fun x hx => by simp at hx
/-- The group of M[k] ends where the number turns. -/
theorem cut_next {M L : List Req} (hM : IsSet M L) {k e : Nat} (hke : k < e) (hc : CutAt M k) {q : Int × Int} (hq : ∀ x ∈ (M.take e).drop k, numR x = q) (hend : ∀ y, M[e]? = some y → numR y ≠ q) : CutAt M e := by
  intro x hx y hy e1
  by_cases hxk : x ∈ M.take k
  · refine hc x hxk y ?_ e1
    obtain ⟨i, hi, rfl⟩ := List.mem_iff_getElem.1 hy
    rw [List.mem_iff_getElem]
    refine ⟨e - k + i, by simp at hi ⊢; omega, ?_⟩
    simp only [List.getElem_drop]
    congr 1; omega
  · have hxG : x ∈ (M.take e).drop k := by
      rw [← List.take_append_drop k (M.take e)] at hx
      rcases List.mem_append.1 hx with h | h
      · rw [List.take_take, Nat.min_eq_left (by omega)] at h; exact absurd h hxk
      · exact h
    have hxq := hq x hxG
    obtain ⟨i, hi, rfl⟩ := List.mem_iff_getElem.1 hy
    have hlen : e < M.length := by simp at hi; omega
    have hne := hend M[e] (List.getElem?_eq_getElem hlen)
    -- x stands ahead of M[e], M[e] at or ahead of y
    obtain ⟨j, hj, rfl⟩ := List.mem_iff_getElem.1 hx
    have hje : j < e := by simp at hj; omega
    rw [List.getElem_take] at hxq e1
    have c1 := cmpR_num (List.pairwise_iff_getElem.1 hM.1 j e (by omega) hlen hje)
    rw [List.getElem_drop] at e1
    have hxy : numR M[e] = numR M[j] := by
      rcases Nat.eq_zero_or_pos i with h0 | h0
      · subst h0; simp only [Nat.add_zero] at e1; exact e1.symm
      · have c2 := cmpR_num (List.pairwise_iff_getElem.1 hM.1 e (e + i) hlen (by simp at hi; omega) (by omega))
        simp only [numR, Prod.mk.injEq] at e1 ⊢
        omega
    exact hne (hxy.trans hxq)
/-- What a group adds. -/
theorem group_step {M L : List Req} (_hM : IsSet M L) {k e : Nat} (hke : k < e) (hc : CutAt M k) (hce : CutAt M e) {q : Int × Int} (hq : ∀ x ∈ (M.take e).drop k, numR x = q) (hne : ∃ x, x ∈ (M.take e).drop k) :
    keepR (canK M) (M.take e) = keepR (canK M) (M.take k) ++ (if ((M.take e).drop k).any (·.cancel) = true then [] else (firstOk ((M.take e).drop k)).toList) := by
  have hs : M.take e = M.take k ++ (M.take e).drop k := by
    conv => lhs; rw [← List.take_append_drop k (M.take e)]
    rw [List.take_take, Nat.min_eq_left (by omega)]
  conv => lhs; rw [hs]
  rw [keepR_app]
  congr 1
  obtain ⟨x0, hx0⟩ := hne
  have hin : ∀ y, y ∈ (M.take e).drop k → y ∈ M.drop k := fun y hy => by
    obtain ⟨i, hi, rfl⟩ := List.mem_iff_getElem.1 hy
    simp only [List.getElem_drop, List.getElem_take]
    rw [List.mem_iff_getElem]
    exact ⟨i, by simp at hi ⊢; omega, by simp [List.getElem_drop]⟩
  have hcan : q ∈ canK M ↔ ((M.take e).drop k).any (·.cancel) = true := by
    rw [canK_mem, List.any_eq_true]
    constructor
    · rintro ⟨x, hx, h1, h2⟩
      refine ⟨x, ?_, h1⟩
      rw [← List.take_append_drop e M, hs] at hx
      rcases List.mem_append.1 hx with hx | hx
      · rcases List.mem_append.1 hx with hx | hx
        · exact absurd (h2.trans (hq x0 hx0).symm) (hc x hx x0 (hin x0 hx0))
        · exact hx
      · exact absurd ((hq x0 hx0).trans h2.symm) (hce x0 (List.mem_of_mem_drop hx0) x hx)
    · rintro ⟨x, hx, h1⟩
      exact ⟨x, List.mem_of_mem_take (List.mem_of_mem_drop hx), h1, hq x hx⟩
  by_cases h : ((M.take e).drop k).any (·.cancel) = true
  · rw [if_pos h]
    exact group_in _ _ q (stK_mem _ _ _ (hcan.2 h)) hq
  · rw [if_neg h]
    refine group_out _ _ q (stK_not _ _ _ (fun h' => h (hcan.1 h')) fun x hx e1 => ?_) hq
    exact hc x hx x0 (hin x0 hx0) (e1.trans (hq x0 hx0).symm)
theorem seg_snoc {M : List Req} {k e : Nat} {y : Req} (hke : k ≤ e) (hy : M[e]? = some y) : (M.take (e + 1)).drop k = (M.take e).drop k ++ [y] := by
  have hl : e < M.length := (List.getElem?_eq_some_iff.1 hy).1
  rw [take_snoc hy, List.drop_append_of_le_length (by simp; omega)]
theorem firstOk_snoc (G : List Req) (y : Req) : firstOk (G ++ [y]) = (firstOk G).or (if chkR y = 0 then some y else none) := by
  unfold firstOk
  rw [List.find?_append]
  congr 1
  by_cases h : chkR y = 0 <;> simp [h]
end Go.Proofs.YteopjiedjnaeiaaGreat
/- Pieces of sanity: its drawn regions, a theorem each. -/
/- The examples of the chapter: what the functions return there. -/
namespace Go.Proofs.YteopjiedjnaeiaaGreat
open Go Go.Proofs Go.RowKit Go.Sort Go.Lib

theorem rec_ok {r : Req} (h : r.Small) : r.fits := ⟨h.wf, by have := h.code; omega, by have := h.give; omega⟩
theorem small_l (L : List Req) (h : ∀ r ∈ L, r.Small) : ∀ r ∈ L, r.fits := fun r hr => rec_ok (h r hr)
theorem reqs_laid (w : World) (L : List Req) : ReqsIn (w.alloc (.cells (reqCells L).toArray 39)) (.slice (some ⟨w.heap.size, 0, none⟩) L.length L.length) L := by
  refine .inr ⟨w.heap.size, 0, L.length, rfl, Nat.le_refl _, by simp, fun j u hj => ?_⟩
  rw [Nat.zero_add, Lib.cell_of_heap (heap_alloc_new w _)]
  simpa using hj
theorem ck_at (r : Req) (n : Int) (h : chkR r = n) (hg : r.code.size ≤ 12) (hk : r.give.size ≤ 12) (w : World) :
    Calls Tryz.prog 41 #[r.val] w fun x w' => x = .returned (.int .i64 n) ∧ RowKit.Below w.heap.size w w' := by
  have := rqCheck_any r (by omega) (by omega) w
  rw [h] at this; exact this
def Ret (L : List Req) (w : World) (x : Ending) (w' : World) : Prop := ∃ v, x = .returned v ∧ ReqsIn w' v L ∧ RowKit.Below w.heap.size w w'
theorem join_at {A B L : List Req} (h : IsSet L (A ++ B)) (hs : ∀ r ∈ A ++ B, r.Small) (hl : A.length + B.length ≤ 1000000) (a b : Value) (w : World) (ha : ReqsIn w a A) (hb : ReqsIn w b B) :
    Calls Tryz.prog 38 #[a, b] w (Ret L w) := by
  refine (join_any a b A B w ha hb hl fun r hr => (hs r hr).wf).mono ?_
  rintro x w' ⟨v, M, rfl, hM, hr, hb⟩
  obtain rfl := hM.same h
  exact ⟨v, rfl, reqsIn_own hr, hb⟩
theorem active_at {A L K : List Req} (h : IsSet L A) (hk : actR L = K) (hs : ∀ r ∈ A, r.Small) (hl : A.length ≤ 1000000) (a : Value) (w : World) (ha : ReqsIn w a A) :
    Calls Tryz.prog 21 #[a] w (Ret K w) := by
  refine (active_any a A w ha hl (small_l A hs)).mono ?_
  rintro x w' ⟨v, M, rfl, hM, hr, hb⟩
  obtain rfl := hM.same h
  subst hk
  exact ⟨v, rfl, reqsIn_own hr, hb⟩












def RetS (n : Nat) (w : World) (x : Ending) (w' : World) : Prop := ∃ s : ByteArray, x = .returned (.string s) ∧ s.size = n ∧ RowKit.Below w.heap.size w w'





theorem set_acb : IsSet [⟨1, 1, false, 5, 4, ⟨#[65, 49]⟩, ⟨#[]⟩, 2, 400⟩, ⟨1, 1, true, 0, 0, ⟨#[]⟩, ⟨#[]⟩, 0, 0⟩, ⟨1, 2, false, 5, 4, ⟨#[66, 49]⟩, ⟨#[65, 49]⟩, 2, 400⟩] ([⟨1, 1, true, 0, 0, ⟨#[]⟩, ⟨#[]⟩, 0, 0⟩, ⟨1, 1, false, 5, 4, ⟨#[65, 49]⟩, ⟨#[]⟩, 2, 400⟩] ++ [⟨1, 2, false, 5, 4, ⟨#[66, 49]⟩, ⟨#[65, 49]⟩, 2, 400⟩, ⟨1, 1, false, 5, 4, ⟨#[65, 49]⟩, ⟨#[]⟩, 2, 400⟩]) :=
  ⟨by decide +kernel, fun r => by
    simp only [List.mem_cons, List.cons_append, List.nil_append, List.not_mem_nil, or_false]
    constructor
    · rintro (h | h | h) <;> simp [h]
    · rintro (h | h | h | h) <;> simp [h]⟩
theorem set_acb' : IsSet [⟨1, 1, false, 5, 4, ⟨#[65, 49]⟩, ⟨#[]⟩, 2, 400⟩, ⟨1, 1, true, 0, 0, ⟨#[]⟩, ⟨#[]⟩, 0, 0⟩, ⟨1, 2, false, 5, 4, ⟨#[66, 49]⟩, ⟨#[65, 49]⟩, 2, 400⟩] [⟨1, 1, false, 5, 4, ⟨#[65, 49]⟩, ⟨#[]⟩, 2, 400⟩, ⟨1, 1, true, 0, 0, ⟨#[]⟩, ⟨#[]⟩, 0, 0⟩, ⟨1, 2, false, 5, 4, ⟨#[66, 49]⟩, ⟨#[65, 49]⟩, 2, 400⟩] := ⟨set_acb.1, fun _ => Iff.rfl⟩
theorem set_ab : IsSet [⟨1, 1, false, 5, 4, ⟨#[65, 49]⟩, ⟨#[]⟩, 2, 400⟩, ⟨1, 2, false, 5, 4, ⟨#[66, 49]⟩, ⟨#[65, 49]⟩, 2, 400⟩] [⟨1, 2, false, 5, 4, ⟨#[66, 49]⟩, ⟨#[65, 49]⟩, 2, 400⟩, ⟨1, 1, false, 5, 4, ⟨#[65, 49]⟩, ⟨#[]⟩, 2, 400⟩] :=
  ⟨by decide +kernel, fun r => by
    simp only [List.mem_cons, List.not_mem_nil, or_false]
    constructor
    · rintro (h | h) <;> simp [h]
    · rintro (h | h) <;> simp [h]⟩
theorem set_mi : IsSet [⟨1, 2, false, 5, 4, ⟨#[66, 49]⟩, ⟨#[65, 49]⟩, 2, 400⟩] ([⟨1, 1, false, 5, 4, ⟨#[65, 49]⟩, ⟨#[]⟩, 2, 400⟩, ⟨1, 2, false, 5, 4, ⟨#[66, 49]⟩, ⟨#[65, 49]⟩, 2, 400⟩].filter fun r => !([⟨1, 1, true, 0, 0, ⟨#[]⟩, ⟨#[]⟩, 0, 0⟩, ⟨1, 1, false, 5, 4, ⟨#[65, 49]⟩, ⟨#[]⟩, 2, 400⟩]).any (eqReq r)) := by
  rw [show ([⟨1, 1, false, 5, 4, ⟨#[65, 49]⟩, ⟨#[]⟩, 2, 400⟩, ⟨1, 2, false, 5, 4, ⟨#[66, 49]⟩, ⟨#[65, 49]⟩, 2, 400⟩].filter fun r => !([⟨1, 1, true, 0, 0, ⟨#[]⟩, ⟨#[]⟩, 0, 0⟩, ⟨1, 1, false, 5, 4, ⟨#[65, 49]⟩, ⟨#[]⟩, 2, 400⟩]).any (eqReq r)) = [⟨1, 2, false, 5, 4, ⟨#[66, 49]⟩, ⟨#[65, 49]⟩, 2, 400⟩] by kernel_rfl]
  exact ⟨by decide +kernel, fun _ => Iff.rfl⟩
theorem act_acb : actR [⟨1, 1, false, 5, 4, ⟨#[65, 49]⟩, ⟨#[]⟩, 2, 400⟩, ⟨1, 1, true, 0, 0, ⟨#[]⟩, ⟨#[]⟩, 0, 0⟩, ⟨1, 2, false, 5, 4, ⟨#[66, 49]⟩, ⟨#[65, 49]⟩, 2, 400⟩] = [⟨1, 2, false, 5, 4, ⟨#[66, 49]⟩, ⟨#[65, 49]⟩, 2, 400⟩] := by kernel_rfl
theorem act_ab : actR [⟨1, 1, false, 5, 4, ⟨#[65, 49]⟩, ⟨#[]⟩, 2, 400⟩, ⟨1, 2, false, 5, 4, ⟨#[66, 49]⟩, ⟨#[65, 49]⟩, 2, 400⟩] = [⟨1, 1, false, 5, 4, ⟨#[65, 49]⟩, ⟨#[]⟩, 2, 400⟩, ⟨1, 2, false, 5, 4, ⟨#[66, 49]⟩, ⟨#[65, 49]⟩, 2, 400⟩] := by kernel_rfl
theorem sm_acb : ∀ r ∈ ([⟨1, 1, false, 5, 4, ⟨#[65, 49]⟩, ⟨#[]⟩, 2, 400⟩, ⟨1, 1, true, 0, 0, ⟨#[]⟩, ⟨#[]⟩, 0, 0⟩, ⟨1, 2, false, 5, 4, ⟨#[66, 49]⟩, ⟨#[65, 49]⟩, 2, 400⟩] : List Req), r.Small := by intro r hr; simp only [List.mem_cons, List.not_mem_nil, or_false] at hr; rcases hr with rfl | rfl | rfl <;> exact small_mk (by unfold I64; omega) (by decide) (by decide)
theorem sm_ba : ∀ r ∈ ([⟨1, 2, false, 5, 4, ⟨#[66, 49]⟩, ⟨#[65, 49]⟩, 2, 400⟩, ⟨1, 1, false, 5, 4, ⟨#[65, 49]⟩, ⟨#[]⟩, 2, 400⟩] : List Req), r.Small := by intro r hr; simp only [List.mem_cons, List.not_mem_nil, or_false] at hr; rcases hr with rfl | rfl <;> exact small_mk (by unfold I64; omega) (by decide) (by decide)
theorem sm_ab : ∀ r ∈ ([⟨1, 1, false, 5, 4, ⟨#[65, 49]⟩, ⟨#[]⟩, 2, 400⟩, ⟨1, 2, false, 5, 4, ⟨#[66, 49]⟩, ⟨#[65, 49]⟩, 2, 400⟩] : List Req), r.Small := by intro r hr; simp only [List.mem_cons, List.not_mem_nil, or_false] at hr; rcases hr with rfl | rfl <;> exact small_mk (by unfold I64; omega) (by decide) (by decide)
theorem sm_ca : ∀ r ∈ ([⟨1, 1, true, 0, 0, ⟨#[]⟩, ⟨#[]⟩, 0, 0⟩, ⟨1, 1, false, 5, 4, ⟨#[65, 49]⟩, ⟨#[]⟩, 2, 400⟩] : List Req), r.Small := by intro r hr; simp only [List.mem_cons, List.not_mem_nil, or_false] at hr; rcases hr with rfl | rfl <;> exact small_mk (by unfold I64; omega) (by decide) (by decide)
theorem sm_caba : ∀ r ∈ ([⟨1, 1, true, 0, 0, ⟨#[]⟩, ⟨#[]⟩, 0, 0⟩, ⟨1, 1, false, 5, 4, ⟨#[65, 49]⟩, ⟨#[]⟩, 2, 400⟩] ++ [⟨1, 2, false, 5, 4, ⟨#[66, 49]⟩, ⟨#[65, 49]⟩, 2, 400⟩, ⟨1, 1, false, 5, 4, ⟨#[65, 49]⟩, ⟨#[]⟩, 2, 400⟩] : List Req), r.Small := by intro r hr; simp only [List.mem_cons, List.cons_append, List.nil_append, List.not_mem_nil, or_false] at hr; rcases hr with rfl | rfl | rfl | rfl <;> exact small_mk (by unfold I64; omega) (by decide) (by decide)
theorem ck_a (w : World) : Calls Tryz.prog 41 #[.agg #[.int .i64 1, .int .i64 1, .bool false, .int .i64 5, .int .i64 4, .string ⟨#[65, 49]⟩, .string ⟨#[]⟩, .int .i64 2, .int .i64 400]] w fun x w' => x = .returned (.int .i64 0) ∧ RowKit.Below w.heap.size w w' :=
  ck_at ⟨1, 1, false, 5, 4, ⟨#[65, 49]⟩, ⟨#[]⟩, 2, 400⟩ 0 (by decide +kernel) (by decide) (by decide) w
theorem ck_g (w : World) : Calls Tryz.prog 41 #[.agg #[.int .i64 1, .int .i64 1, .bool false, .int .i64 5, .int .i64 4, .string ⟨#[65, 49]⟩, .string ⟨#[65, 49]⟩, .int .i64 2, .int .i64 400]] w fun x w' => x = .returned (.int .i64 12) ∧ RowKit.Below w.heap.size w w' :=
  ck_at ⟨1, 1, false, 5, 4, ⟨#[65, 49]⟩, ⟨#[65, 49]⟩, 2, 400⟩ 12 (by decide +kernel) (by decide) (by decide) w
theorem ck_s (w : World) : Calls Tryz.prog 41 #[.agg #[.int .i64 1, .int .i64 0, .bool false, .int .i64 5, .int .i64 4, .string ⟨#[65, 49]⟩, .string ⟨#[]⟩, .int .i64 2, .int .i64 400]] w fun x w' => x = .returned (.int .i64 1) ∧ RowKit.Below w.heap.size w w' :=
  ck_at ⟨1, 0, false, 5, 4, ⟨#[65, 49]⟩, ⟨#[]⟩, 2, 400⟩ 1 (by decide +kernel) (by decide) (by decide) w
theorem ck_c (w : World) : Calls Tryz.prog 41 #[.agg #[.int .i64 1, .int .i64 1, .bool true, .int .i64 0, .int .i64 0, .string ⟨#[]⟩, .string ⟨#[]⟩, .int .i64 0, .int .i64 0]] w fun x w' => x = .returned (.int .i64 0) ∧ RowKit.Below w.heap.size w w' :=
  ck_at ⟨1, 1, true, 0, 0, ⟨#[]⟩, ⟨#[]⟩, 0, 0⟩ 0 (by decide +kernel) (by decide) (by decide) w
theorem ck_k (w : World) : Calls Tryz.prog 41 #[.agg #[.int .i64 1, .int .i64 1, .bool true, .int .i64 5, .int .i64 0, .string ⟨#[]⟩, .string ⟨#[]⟩, .int .i64 0, .int .i64 0]] w fun x w' => x = .returned (.int .i64 20) ∧ RowKit.Below w.heap.size w w' :=
  ck_at ⟨1, 1, true, 5, 0, ⟨#[]⟩, ⟨#[]⟩, 0, 0⟩ 20 (by decide +kernel) (by decide) (by decide) w
end Go.Proofs.YteopjiedjnaeiaaGreat
namespace Go.Proofs.YteopjiedjnaeiaaGreat
open Go Go.Proofs Go.RowKit Go.Sort Go.Lib
attribute [local go_sem] Req.cells

theorem exec_req {oi : Oper} {a : Act} {w : World} (p : Operand) (b o : Nat) (e : Req) (ho : oi.op = .load 39 p) (hp : a.eval p = .pointer (some ⟨b, o, none⟩)) (hat : ReqAt w b o e) : (execOp a.eval oi).run Tryz.prog w = .ok (.value e.val) w := by
  have hl := req_load w b o e hat
  unfold execOp
  simp only [ho, hp, Sem.run_bind, Sem.run_pure, hl, Result.andThen_ok]
/-- A variable of a drawn region: laid or not, written or not. -/
def VBox (W : World) (al st : Bool) (v : Value) (r : Req) (w : World) : Prop := al = true → ∃ b, v = .pointer (some ⟨b, 0, none⟩) ∧ W.heap.size ≤ b ∧ w.heap[b]? = some (.cells (if st = true then r.cells else zeroCells) 39 (0, 0))
theorem VBox.below {W w w' : World} {al st : Bool} {v : Value} {r : Req} (h : VBox W al st v r w) (hb : RowKit.Below w.heap.size w w') : VBox W al st v r w' := fun e => by
  obtain ⟨b, h1, h2, h3⟩ := h e
  exact ⟨b, h1, h2, (hb.block b (lt_of_heap h3)).trans h3⟩
theorem VBox.new {W w : World} (r : Req) (h : W.heap.size ≤ w.heap.size) : VBox W true false (.pointer (some ⟨w.heap.size, 0, none⟩)) r (w.alloc (.cells zeroCells 39)) := fun _ => ⟨w.heap.size, rfl, h, heap_alloc_new w _⟩
theorem VBox.ne {W w : World} {al st : Bool} {v : Value} {r : Req} (h : VBox W al st v r w) (e : al = true) : v ≠ .pointer (some ⟨w.heap.size, 0, none⟩) := by
  obtain ⟨b, rfl, _, h3⟩ := h e
  intro hh
  injection hh with hh
  injection hh with hh
  have hb : b = w.heap.size := by injection hh
  have := lt_of_heap h3
  omega
theorem VBox.set {W w : World} {b : Nat} {r : Req} {cs : Array Value} (hB : W.heap.size ≤ b) (h : w.heap[b]? = some (.cells cs 39 (0, 0))) : VBox W true true (.pointer (some ⟨b, 0, none⟩)) r (w.setRow b r.cells) := fun _ => ⟨b, rfl, hB, heap_setRow h _⟩
theorem VBox.far {W w : World} {al st : Bool} {v : Value} {r : Req} {b' : Nat} (h : VBox W al st v r w) (hne : al = true → v ≠ .pointer (some ⟨b', 0, none⟩)) (cs : Array Value) : VBox W al st v r (w.setRow b' cs) := fun e => by
  obtain ⟨b, rfl, h2, h3⟩ := h e
  refine ⟨b, rfl, h2, ?_⟩
  rw [← h3]
  show (w.heap.modify b' _)[b]? = w.heap[b]?
  rw [Array.getElem?_modify, if_neg]
  intro hh
  exact hne e (by rw [hh])
theorem old_keep {w w' : World} {B g : Nat} {cs : Array Value} (hg : g < B) (hk : RowKit.Below B w w') (h : ∀ j, w.cell? ⟨g, j, none⟩ = cs[j]?) : ∀ j, w'.cell? ⟨g, j, none⟩ = cs[j]? := fun j => by rw [hk.cell (p := ⟨g, j, none⟩) hg]; exact h j








































































































end Go.Proofs.YteopjiedjnaeiaaGreat
/- course.Clash: whether two offers meet. -/
namespace Go.Proofs.YteopjiedjnaeiaaGreat
open Go Go.Proofs Go.RowKit Go.Maps Go.Sort Go.Lib
attribute [local go_sem] Off.cells

theorem encI_cells {w : World} {b o : Nat} {zs : List Int} (h : ∀ i x, zs[i]? = some x → w.rangeAt b (o + i * 1) (encI x)) : ∀ j, j < zs.length → w.cell? ⟨b, o + j, none⟩ = some (.int .i64 (zs.getD j 0)) := fun j hj => by
  have := h j _ (List.getElem?_eq_getElem hj) 0 (.int .i64 zs[j]) rfl
  rw [Nat.mul_one, Nat.add_zero] at this
  rw [this, List.getD_eq_getElem?_getD, List.getElem?_eq_getElem hj]; rfl
theorem contains_ints (v : Value) (zs : List Int) (x : Int) (w : World) (h : RowIn encI w v zs) (hl : zs.length ≤ 9223372036854775807) :
    Calls Tryz.prog 60 #[v, .int .i64 x] w fun e w' => e = .returned (.bool (decide (x ∈ zs))) ∧ w' = w := by
  rcases Nat.eq_zero_or_pos zs.length with h0 | h0
  · obtain ⟨p, c, rfl, _⟩ := h.form
    have e := List.eq_nil_of_length_eq_zero h0
    subst e
    exact Tryz.slices_Contains_int_empty p c x w
  · obtain ⟨b, o, c, rfl, _, _, hx⟩ := h.at_ (k := 1) (fun _ => rfl) h0
    refine (Tryz.slices_Contains_int b o zs.length c zs x w (Nat.le_refl _) hl (encI_cells hx)).mono ?_
    rintro e w' ⟨rfl, rfl⟩
    exact ⟨ret_bool (by rw [List.take_length, Bool.eq_iff_iff, List.contains_iff_mem, decide_eq_true_eq]), rfl⟩
theorem clash1_any (n : Int) (bx : Nat) (b : Off) (w : World) (hb : w.heap[bx]? = some (.cells b.cells.toArray 57 (0, 0))) (hs : RowIn encI w b.sv b.slots) (hl : b.slots.length ≤ 9223372036854775807) :
    Calls Tryz.prog 59 #[.int .i64 n, .pointer (some ⟨bx, 0, none⟩)] w fun e w' => e = .returned (.bool (decide (n ∈ b.slots))) ∧ w' = w := by
  have hc : w.cell? ⟨bx, 3, none⟩ = some b.sv := by rw [Lib.cell_of_heap hb]; rfl
  go_enter Tryz.func59, Tryz.ntmps59
  go_wp2_with fail
  refine (contains_ints b.sv b.slots n w hs hl).mono ?_
  rintro _ _ ⟨rfl, rfl⟩
  go_wp2_with fail
  go_ret
  exact ⟨rfl, rfl⟩
theorem indexI_any (g : FuncId) (cb : Array Value) (p : Int → Bool) (v : Value) (zs : List Int) (w : World) (h : RowIn encI w v zs) (hl : zs.length ≤ 1000000000000)
    (eg : ∀ args w, (callFunc g args).run Tryz.prog w = .ok (.enter g args) w) (hp : ∀ n, Calls Tryz.prog g (#[.int .i64 n] ++ cb) w fun e w' => e = .returned (.bool (p n)) ∧ w' = w) :
    Calls Tryz.prog 73 #[v, .func (.func g) #[] cb] w fun e w' => (∃ k : Int, e = .returned (.int .i64 k) ∧ decide (k ≥ 0) = zs.any p) ∧ w' = w := by
  obtain ⟨q, c, rfl, _⟩ := h.form
  have H := Lib.hid h
  clear h
  go_enter Tryz.func73, Tryz.ntmps73
  go_wp2_with fail
  go_loopw [8] (fun i wr => ∃ k : Nat, k ≤ zs.length ∧ i = .int .i64 k ∧ Hid ((zs.take k).any p = false) ∧ wr = w) (fun i _ => zs.length - (RowKit.intOf i).toNat)
  case atStart => exact ⟨0, Nat.zero_le _, rfl, Lib.hid rfl, rfl⟩
  case round =>
    obtain ⟨k, hk, rfl, HK, rfl⟩ := hrel
    by_cases hlt : k < zs.length
    · obtain ⟨b, o, c', hv, _, _, hx⟩ := H.out.at_ (k := 1) (fun _ => rfl) (by omega)
      have e1 := (Value.slice.inj hv).1
      subst e1
      have hz := List.getElem?_eq_getElem hlt
      have hcell := hx k _ hz 0 _ rfl
      rw [Nat.mul_one, Nat.add_zero] at hcell
      have hn : zs.take (k + 1) = zs.take k ++ [zs[k]] := by rw [List.take_add_one, hz]; rfl
      have HN := Lib.hid hn
      generalize zs[k] = z at hz hcell HN
      have cp := hp z
      generalize hG : p z = G at cp
      have HG := Lib.hid hG
      have HZ := Lib.hid (List.mem_of_getElem? hz)
      clear hv hx hz hn hG
      go_wp2_with fail
      refine cp.mono ?_
      rintro _ _ ⟨rfl, rfl⟩
      cases G
      · go_wp2_with fail
        go_roundw
        case rel => exact ⟨k + 1, by omega, by go_num, Lib.hid (by rw [HN.out, List.any_append, HK.out]; simp [HG.out]), trivial⟩
        case measure => simp [RowKit.intOf]; omega
      · go_wp2_with fail
        go_ret
        refine ⟨⟨k, rfl, ?_⟩, rfl⟩
        rw [decide_eq_true (by omega), eq_comm, List.any_eq_true]
        exact ⟨z, HZ.out, HG.out⟩
    · obtain rfl : k = zs.length := by omega
      have hk2 := HK.out
      rw [List.take_length] at hk2
      go_wp2_with fail
      go_ret
      exact ⟨⟨-1, rfl, by rw [hk2]; rfl⟩, rfl⟩
theorem containsI_any (g : FuncId) (cb : Array Value) (p : Int → Bool) (v : Value) (zs : List Int) (w : World) (h : RowIn encI w v zs) (hl : zs.length ≤ 1000000000000)
    (eg : ∀ args w, (callFunc g args).run Tryz.prog w = .ok (.enter g args) w) (hp : ∀ n, Calls Tryz.prog g (#[.int .i64 n] ++ cb) w fun e w' => e = .returned (.bool (p n)) ∧ w' = w) :
    Calls Tryz.prog 58 #[v, .func (.func g) #[] cb] w fun e w' => e = .returned (.bool (zs.any p)) ∧ w' = w := by
  go_enter Tryz.func58, Tryz.ntmps58
  go_wp2_with fail
  refine (indexI_any g cb p v zs w h hl eg hp).mono ?_
  rintro _ _ ⟨⟨k, rfl, hk⟩, rfl⟩
  go_wp2_with fail
  go_ret
  exact ⟨rfl, rfl⟩
/-- Lists that no loop outruns. -/
def Off.few (o : Off) : Prop := o.slots.length ≤ 1000000000000
theorem clash_any (a b : Off) (w : World) (ha : RowIn encI w a.sv a.slots) (hb : RowIn encI w b.sv b.slots) (la : a.few) (lb : b.few) :
    Calls Tryz.prog 44 #[a.val, b.val] w fun e w' => e = .returned (.bool (clashO a b)) ∧ RowKit.Below w.heap.size w w' := by
  have hb2 : RowKit.Below w.heap.size w ((w.alloc (.cells a.cells.toArray 57)).alloc (.cells b.cells.toArray 57)) := (below_alloc1 _ _).alloc (by simp) _
  have hx2 : ((w.alloc (.cells a.cells.toArray 57)).alloc (.cells b.cells.toArray 57)).heap[w.heap.size + 1]? = some (.cells b.cells.toArray 57 (0, 0)) := new_two _ _ _
  have hc2 : ((w.alloc (.cells a.cells.toArray 57)).alloc (.cells b.cells.toArray 57)).cell? ⟨w.heap.size, 3, none⟩ = some a.sv := by
    rw [Below.cell (p := ⟨w.heap.size, 3, none⟩) (below_alloc1 (w.alloc _) _) (by simp), Lib.cell_of_heap (heap_alloc_new w _)]; rfl
  go_enter Tryz.func44, Tryz.ntmps44
  simp only [Off.cells] at hb2 hx2 hc2
  go_wp2_with fail
  refine (containsI_any 59 #[.pointer (some ⟨w.heap.size + 1, 0, none⟩)] (fun n => decide (n ∈ b.slots)) a.sv a.slots _ (ha.below hb2) la (enters_of Tryz.func59 (by kernel_rfl) rfl) (fun n => clash1_any n _ b _ hx2 (hb.below hb2) (by unfold Off.few at lb; omega))).mono ?_
  rintro _ _ ⟨rfl, rfl⟩
  go_wp2_with fail
  go_ret
  exact ⟨rfl, hb2⟩
end Go.Proofs.YteopjiedjnaeiaaGreat
/- Pieces of sanity: regions 8. -/
namespace Go.Proofs.YteopjiedjnaeiaaGreat
open Go Go.Proofs Go.RowKit Go.Sort Go.Lib
attribute [local go_sem] Req.cells

































































































































































































































































































































































































































































































































































































end Go.Proofs.YteopjiedjnaeiaaGreat
namespace Go.Proofs.YteopjiedjnaeiaaGreat
open Go Go.Proofs Go.RowKit Go.Sort Go.Lib
attribute [local go_sem] Req.cells
























































































































































































































































































































end Go.Proofs.YteopjiedjnaeiaaGreat
