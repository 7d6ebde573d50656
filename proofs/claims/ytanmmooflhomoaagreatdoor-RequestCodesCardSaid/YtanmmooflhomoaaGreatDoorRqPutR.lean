/- The reference's put: the row with the request in its place. -/
import Derived.Test.YtanmmooflhomoaaGreatDoorRqSame
import Derived.Test.YtanmmooflhomoaaGreatDoorRqPutL
import Derived.Test.YtanmmooflhomoaaGreatDoorRqMdA
import Derived.Test.YtanmmooflhomoaaGreatDoorPiece
import Derived.Deep.RegionHeld3
namespace Go.Proofs.YtanmmooflhomoaaGreatDoor
open Go Go.Proofs Go.RowKit Go.Sort Go.Lib
attribute [local go_sem] Req.cells
theorem own_empty_at (w : World) (base b : Nat) (h : w.heap.size = b) (hb : base ≤ b) : (w.alloc (.cells #[] 46)).ownsRow base 46 9 (.slice (some ⟨b, 0, none⟩) 0 0) 0 (reqCells []) := by
  subst h; exact World.ownsRow_made w #[] 0 hb (Nat.zero_le _) rfl
theorem ReqsIn.grown {w w' : World} {v : Value} {L : List Req} {row : Option Nat} (h : ReqsIn w v L) (hg : w.grownBy w' row) (hne : v.ownBlock = none ∨ v.ownBlock ≠ row) : ReqsIn w' v L := by
  rcases h with h | ⟨b, o, c, rfl, h2, h3, h4⟩
  · exact .inl h
  · refine .inr ⟨b, o, c, rfl, h2, Nat.lt_of_lt_of_le h3 hg.size, fun j u hj => hg.cell (h4 j u hj) ?_⟩
    rcases hne with hne | hne
    · simp [Value.ownBlock] at hne
    · simpa [Value.ownBlock] using hne
theorem ReqsIn.take {w : World} {b o c : Nat} {L : List Req} (h : ReqsIn w (.slice (some ⟨b, o, none⟩) L.length c) L) (k : Nat) (hk : k ≤ L.length) : ReqsIn w (.slice (some ⟨b, o, none⟩) k c) (L.take k) := by
  rcases h with ⟨h, _⟩ | ⟨b', o', c', h1, h2, h3, h4⟩
  · injection h with h; cases h
  · injection h1 with e1 e2 e3
    simp only [Option.some.injEq, Addr.mk.injEq, and_true] at e1
    obtain ⟨rfl, rfl⟩ := e1
    have hl : (L.take k).length = k := by simp; omega
    refine .inr ⟨b, o, c, by rw [hl], by rw [hl, e3]; omega, h3, fun j u hj => h4 j u ?_⟩
    conv => lhs; rw [← List.take_append_drop k L, reqCells_app]
    rw [List.getElem?_append_left (List.getElem?_eq_some_iff.1 hj).1]; exact hj
theorem ReqsIn.drop {w : World} {b o c : Nat} {L : List Req} (h : ReqsIn w (.slice (some ⟨b, o, none⟩) L.length c) L) (k : Nat) (hk : k ≤ L.length) (a : Nat) (ha : L.length = k ∨ a = o + k * 9) : ReqsIn w (.slice (some ⟨b, a, none⟩) (L.length - k) (c - k)) (L.drop k) := by
  rcases h with ⟨h, _⟩ | ⟨b', o', c', h1, h2, h3, h4⟩
  · injection h with h; cases h
  · injection h1 with e1 e2 e3
    simp only [Option.some.injEq, Addr.mk.injEq, and_true] at e1
    obtain ⟨rfl, rfl⟩ := e1
    refine .inr ⟨b, a, c - k, by rw [List.length_drop], by rw [List.length_drop, e3]; omega, h3, fun j u hj => ?_⟩
    rcases ha with ha | rfl
    · rw [show L.drop k = [] from List.drop_eq_nil_of_le (by omega)] at hj
      simp [reqCells] at hj
    · rw [Nat.add_assoc]
      refine h4 _ u ?_
      conv => lhs; rw [← List.take_append_drop k L, reqCells_app]
      rw [List.getElem?_append_right (by rw [reqCells_len]; simp; omega), reqCells_len, show (L.take k).length = k by simp; omega, show k * 9 + j - k * 9 = j by omega]
      exact hj
theorem at_c (W w1 : World) (r : Req) (hg : ((W.alloc (.cells r.cells 46)).alloc (.cells #[] 46)).drew.grownBy w1 (Value.slice (some ⟨W.heap.size + 1, 0, none⟩) 0 0).ownBlock) : ReqsIn w1 (.slice (some ⟨W.heap.size, 0, none⟩) 1 1) [r] :=
  ((reqs_one_at W r W.heap.size rfl).below (w' := ((W.alloc (.cells r.cells 46)).alloc (.cells #[] 46)).drew) (below_alloc1 _ _).drew).grown hg (.inr fun e => absurd (show W.heap.size = W.heap.size + 1 from Option.some.inj e) (by omega))

set_option maxHeartbeats 4000000 in
set_option maxRecDepth 100000 in
theorem put_r6 {s1 s2 s4 s6 s7 s8 s9 s10 s11 s12 s13 s14 s15 s16 s17 s18 s19 s20 s21 s22 s23 s24 s25 s26 s27 s28 s29 s30 s31 s32 s33 s34 s35 s36 s37 s38 s39 s40 s41 s42 s43 s44 s45 s46 : Value} (b o c k rb : Nat) (M : List Req) (r : Req) (W : World) (Q : Exit → Act → World → Prop) (hV : ReqsIn W (.slice (some ⟨b, o, none⟩) M.length c) M) (hk : k ≤ M.length) (hlc : M.length ≤ c) (hlen : M.length ≤ 100000) (hbox : ReqBox W rb r)
    (hQ : ∀ (u4 u35 u36 u37 u38 u39 u40 u41 u42 u43 u44 u45 u46 : Value) (wx : World), RowKit.Below W.heap.size W wx ∧ ReqsIn wx u4 (M.take k ++ r :: M.drop k) → Q .normal ⟨List.toArray (.slice (some ⟨b, o, none⟩) M.length c :: s1 :: s2 :: .pointer (some ⟨rb, 0, none⟩) :: u4 :: .int .i64 k :: s6 :: s7 :: s8 :: s9 :: s10 :: s11 :: s12 :: s13 :: s14 :: s15 :: s16 :: s17 :: s18 :: s19 :: s20 :: s21 :: s22 :: s23 :: s24 :: s25 :: s26 :: s27 :: s28 :: s29 :: s30 :: s31 :: s32 :: s33 :: s34 :: u35 :: u36 :: u37 :: u38 :: u39 :: u40 :: u41 :: u42 :: u43 :: u44 :: u45 :: u46 :: []), []⟩ wx) :
    (regionOf Tryz.f26 6).wp Tryz.prog Q ⟨List.toArray (.slice (some ⟨b, o, none⟩) M.length c :: s1 :: s2 :: .pointer (some ⟨rb, 0, none⟩) :: s4 :: .int .i64 k :: s6 :: s7 :: s8 :: s9 :: s10 :: s11 :: s12 :: s13 :: s14 :: s15 :: s16 :: s17 :: s18 :: s19 :: s20 :: s21 :: s22 :: s23 :: s24 :: s25 :: s26 :: s27 :: s28 :: s29 :: s30 :: s31 :: s32 :: s33 :: s34 :: s35 :: s36 :: s37 :: s38 :: s39 :: s40 :: s41 :: s42 :: s43 :: s44 :: s45 :: s46 :: []), []⟩ W := by
  refine of_onlyN (K := Q .normal) ?_ (fun _ _ h => h)
  generalize Q .normal = K at hQ ⊢
  have HQ := Lib.hid hQ; clear hQ
  conv => arg 2; whnf
  have keepS : ∀ w', RowKit.Below W.heap.size W w' → RowKit.Below W.heap.size W w' ∧ (∀ j, w'.cell? ⟨rb, j, none⟩ = r.cells[j]?) := fun w' hb => ⟨hb, (hbox.below hb).cell⟩
  simp only [Req.cells] at keepS
  have hS0 := keepS _ (Below.refl W.heap.size W).drew
  have hT : ReqsIn W (.slice (some ⟨b, o, none⟩) k c) (M.take k) := hV.take k hk
  have hZ : ReqsIn W (.slice (if c = k then some ⟨b, o, none⟩ else some ⟨b, o + k * 9, none⟩) (M.length - k) (c - k)) (M.drop k) := (by by_cases h : c = k; (rw [if_pos h]; exact hV.drop k hk o (.inl (by omega))); (rw [if_neg h]; exact hV.drop k hk _ (.inr rfl)))
  have hkn : (k : Int) ≤ (M.length : Int) := by omega
  have hkc : (k : Int) ≤ (c : Int) := by omega
  have lt1 : (M.take k).length ≤ 100000 := by simp; omega
  have lt2 : (M.drop k).length ≤ 100000 := by simp; omega
  have HV := Lib.hid hV
  clear hV hk hlc
  go_region_held3 (fun w' => RowKit.Below W.heap.size W w' ∧ (∀ j, w'.cell? ⟨rb, j, none⟩ = r.cells[j]?)) (first | exact hS0 | assumption | (refine keepS _ ?_; (first | exact Below.refl _ _ | exact (Below.refl _ _).drew | exact below_alloc1 _ _ | exact (below_alloc1 _ _).drew | exact (below_alloc1 _ _).alloc (by simp <;> omega) _ | exact ((below_alloc1 _ _).alloc (by simp <;> omega) _).drew | exact hB3 | exact hB3.drew | exact hB2.drew | exact hB2.alloc hB2.size _ | exact (hB2.alloc hB2.size _).drew | exact hB1.alloc hB1.size _ | exact (hB1.alloc hB1.size _).drew | exact hB1.drew)))
    (first
    | ((refine step_append_reqs (by rfl) (.tmp 42) (.tmp 45) (by rfl) W.heap.size _ _ ([] ++ (M.take k) ++ [r]) (M.drop k) (by rfl) (by rfl) ?_ ?_ ?_ ?_ ?_)
       · exact hown2
       · exact hZ.below hB2
       · simp only [List.nil_append, List.length_append, List.length_cons, List.length_nil]; omega
       · exact hB2.size
       intro v3 w3 hown3 hg3
       have hB3 : RowKit.Below W.heap.size W w3 := hB2.grown hg3 hB2.size (fun q hq => (hown2.lt q hq).1)
       have hS3 := keepS _ hB3)
    | ((refine step_append_reqs (by rfl) (.tmp 35) (.tmp 38) (by rfl) W.heap.size _ _ [] (M.take k) (by rfl) (by rfl) ?_ ?_ ?_ ?_ ?_)
       · (first | exact World.ownsRow_made W #[] 0 (Nat.le_refl _) (Nat.zero_le _) rfl | exact (World.ownsRow_made W #[] 0 (Nat.le_refl _) (Nat.zero_le _) rfl).alloc _ | exact own_empty_at (W.alloc _) W.heap.size (W.heap.size + 1) (by simp) (by omega))
       · (refine hT.below ?_; (first | exact Below.refl _ _ | exact (Below.refl _ _).drew | exact below_alloc1 _ _ | exact (below_alloc1 _ _).drew | exact (below_alloc1 _ _).alloc (by simp <;> omega) _ | exact ((below_alloc1 _ _).alloc (by simp <;> omega) _).drew | exact hB3 | exact hB3.drew | exact hB2.drew | exact hB2.alloc hB2.size _ | exact (hB2.alloc hB2.size _).drew | exact hB1.alloc hB1.size _ | exact (hB1.alloc hB1.size _).drew | exact hB1.drew))
       · simp only [List.length_nil]; omega
       · (simp <;> omega)
       intro v1 w1 hown1 hg1
       (first | skip | trace_state)
       have hB1 : RowKit.Below W.heap.size W w1 := by 
           (refine RowKit.Below.grown (w' := _) ?_ hg1 ?_ ?_)
           · (first | exact Below.refl _ _ | exact (Below.refl _ _).drew | exact below_alloc1 _ _ | exact (below_alloc1 _ _).drew | exact (below_alloc1 _ _).alloc (by simp <;> omega) _ | exact ((below_alloc1 _ _).alloc (by simp <;> omega) _).drew | exact hB3 | exact hB3.drew | exact hB2.drew | exact hB2.alloc hB2.size _ | exact (hB2.alloc hB2.size _).drew | exact hB1.alloc hB1.size _ | exact (hB1.alloc hB1.size _).drew | exact hB1.drew)
           · (simp <;> omega)
           · (intro q hq; injection hq with hq; subst hq; simp)
       have hS1 := keepS _ hB1
       first
         | (have h41 : ReqsIn w1 (.slice (some ⟨W.heap.size + 1, 0, none⟩) 1 1) [r] := ReqsIn.grown (show ReqsIn (World.drew ((W.alloc (.cells #[] 46)).alloc (.cells r.cells 46))) _ _ from reqs_one_at (W.alloc (.cells #[] 46)) r (W.heap.size + 1) (by simp)) hg1 (.inr fun e => absurd (show W.heap.size + 1 = W.heap.size from Option.some.inj e) (by omega)))
         | (have h41 : ReqsIn w1 (.slice (some ⟨W.heap.size, 0, none⟩) 1 1) [r] := at_c _ _ _ hg1)
         | skip)
    | ((refine step_append_reqs (by rfl) (.tmp 39) (.tmp 41) (by rfl) W.heap.size _ _ ([] ++ (M.take k)) [r] (by rfl) (by rfl) ?_ ?_ ?_ ?_ ?_)
       · first | exact hown1 | exact hown1.alloc _
       · first | exact h41 | exact reqs_one_at _ r _ rfl
       · simp only [List.nil_append, List.length_cons, List.length_nil]; omega
       · have := hB1.size; simp; omega
       intro v2 w2 hown2 hg2
       have hB2 : RowKit.Below W.heap.size W w2 := by (refine RowKit.Below.grown (w' := _) ?_ hg2 ?_ (fun q hq => (hown1.lt q hq).1); (first | exact hB1 | exact hB1.alloc hB1.size _ | exact (hB1.alloc hB1.size _).drew | exact hB1.drew); (have := hB1.size; simp; omega))
       have hS2 := keepS _ hB2))
  all_goals exact HQ.out _ _ _ _ _ _ _ _ _ _ _ _ _ _ ⟨by first | exact hB3 | exact hB3.drew, by have h := reqsIn_own hown3; rw [show [] ++ M.take k ++ [r] ++ M.drop k = M.take k ++ r :: M.drop k by simp] at h; exact h⟩

set_option maxHeartbeats 4000000 in
set_option maxRecDepth 100000 in
theorem put_r6n {s1 s2 s4 s6 s7 s8 s9 s10 s11 s12 s13 s14 s15 s16 s17 s18 s19 s20 s21 s22 s23 s24 s25 s26 s27 s28 s29 s30 s31 s32 s33 s34 s35 s36 s37 s38 s39 s40 s41 s42 s43 s44 s45 s46 : Value} (rb : Nat) (r : Req) (W : World) (Q : Exit → Act → World → Prop) (hbox : ReqBox W rb r)
    (hQ : ∀ (u4 u35 u36 u37 u38 u39 u40 u41 u42 u43 u44 u45 u46 : Value) (wx : World), RowKit.Below W.heap.size W wx ∧ ReqsIn wx u4 ([r]) → Q .normal ⟨List.toArray (.slice none 0 0 :: s1 :: s2 :: .pointer (some ⟨rb, 0, none⟩) :: u4 :: .int .i64 0 :: s6 :: s7 :: s8 :: s9 :: s10 :: s11 :: s12 :: s13 :: s14 :: s15 :: s16 :: s17 :: s18 :: s19 :: s20 :: s21 :: s22 :: s23 :: s24 :: s25 :: s26 :: s27 :: s28 :: s29 :: s30 :: s31 :: s32 :: s33 :: s34 :: u35 :: u36 :: u37 :: u38 :: u39 :: u40 :: u41 :: u42 :: u43 :: u44 :: u45 :: u46 :: []), []⟩ wx) :
    (regionOf Tryz.f26 6).wp Tryz.prog Q ⟨List.toArray (.slice none 0 0 :: s1 :: s2 :: .pointer (some ⟨rb, 0, none⟩) :: s4 :: .int .i64 0 :: s6 :: s7 :: s8 :: s9 :: s10 :: s11 :: s12 :: s13 :: s14 :: s15 :: s16 :: s17 :: s18 :: s19 :: s20 :: s21 :: s22 :: s23 :: s24 :: s25 :: s26 :: s27 :: s28 :: s29 :: s30 :: s31 :: s32 :: s33 :: s34 :: s35 :: s36 :: s37 :: s38 :: s39 :: s40 :: s41 :: s42 :: s43 :: s44 :: s45 :: s46 :: []), []⟩ W := by
  refine of_onlyN (K := Q .normal) ?_ (fun _ _ h => h)
  generalize Q .normal = K at hQ ⊢
  have HQ := Lib.hid hQ; clear hQ
  conv => arg 2; whnf
  have keepS : ∀ w', RowKit.Below W.heap.size W w' → RowKit.Below W.heap.size W w' ∧ (∀ j, w'.cell? ⟨rb, j, none⟩ = r.cells[j]?) := fun w' hb => ⟨hb, (hbox.below hb).cell⟩
  simp only [Req.cells] at keepS
  have hS0 := keepS _ (Below.refl W.heap.size W).drew
  have hT : ReqsIn W (.slice none 0 0) (([] : List Req)) := .inl ⟨rfl, rfl⟩
  have hZ : ReqsIn W (.slice none 0 0) (([] : List Req)) := .inl ⟨rfl, rfl⟩
  
  have lt1 : (([] : List Req)).length ≤ 100000 := by decide
  have lt2 : (([] : List Req)).length ≤ 100000 := by decide
  go_region_held3 (fun w' => RowKit.Below W.heap.size W w' ∧ (∀ j, w'.cell? ⟨rb, j, none⟩ = r.cells[j]?)) (first | exact hS0 | assumption | (refine keepS _ ?_; (first | exact Below.refl _ _ | exact (Below.refl _ _).drew | exact below_alloc1 _ _ | exact (below_alloc1 _ _).drew | exact (below_alloc1 _ _).alloc (by simp <;> omega) _ | exact ((below_alloc1 _ _).alloc (by simp <;> omega) _).drew | exact hB3 | exact hB3.drew | exact hB2.drew | exact hB2.alloc hB2.size _ | exact (hB2.alloc hB2.size _).drew | exact hB1.alloc hB1.size _ | exact (hB1.alloc hB1.size _).drew | exact hB1.drew)))
    (first
    | ((refine step_append_reqs (by rfl) (.tmp 42) (.tmp 45) (by rfl) W.heap.size _ _ ([] ++ (([] : List Req)) ++ [r]) (([] : List Req)) (by rfl) (by rfl) ?_ ?_ ?_ ?_ ?_)
       · exact hown2
       · exact hZ.below hB2
       · simp only [List.nil_append, List.length_cons, List.length_nil]; omega
       · exact hB2.size
       intro v3 w3 hown3 hg3
       have hB3 : RowKit.Below W.heap.size W w3 := hB2.grown hg3 hB2.size (fun q hq => (hown2.lt q hq).1)
       have hS3 := keepS _ hB3)
    | ((refine step_append_reqs (by rfl) (.tmp 35) (.tmp 38) (by rfl) W.heap.size _ _ [] (([] : List Req)) (by rfl) (by rfl) ?_ ?_ ?_ ?_ ?_)
       · (first | exact World.ownsRow_made W #[] 0 (Nat.le_refl _) (Nat.zero_le _) rfl | exact (World.ownsRow_made W #[] 0 (Nat.le_refl _) (Nat.zero_le _) rfl).alloc _ | exact own_empty_at (W.alloc _) W.heap.size (W.heap.size + 1) (by simp) (by omega))
       · (refine hT.below ?_; (first | exact Below.refl _ _ | exact (Below.refl _ _).drew | exact below_alloc1 _ _ | exact (below_alloc1 _ _).drew | exact (below_alloc1 _ _).alloc (by simp <;> omega) _ | exact ((below_alloc1 _ _).alloc (by simp <;> omega) _).drew | exact hB3 | exact hB3.drew | exact hB2.drew | exact hB2.alloc hB2.size _ | exact (hB2.alloc hB2.size _).drew | exact hB1.alloc hB1.size _ | exact (hB1.alloc hB1.size _).drew | exact hB1.drew))
       · simp only [List.length_nil]; omega
       · (simp <;> omega)
       intro v1 w1 hown1 hg1
       (first | skip | trace_state)
       have hB1 : RowKit.Below W.heap.size W w1 := by 
           (refine RowKit.Below.grown (w' := _) ?_ hg1 ?_ ?_)
           · (first | exact Below.refl _ _ | exact (Below.refl _ _).drew | exact below_alloc1 _ _ | exact (below_alloc1 _ _).drew | exact (below_alloc1 _ _).alloc (by simp <;> omega) _ | exact ((below_alloc1 _ _).alloc (by simp <;> omega) _).drew | exact hB3 | exact hB3.drew | exact hB2.drew | exact hB2.alloc hB2.size _ | exact (hB2.alloc hB2.size _).drew | exact hB1.alloc hB1.size _ | exact (hB1.alloc hB1.size _).drew | exact hB1.drew)
           · (simp <;> omega)
           · (intro q hq; injection hq with hq; subst hq; simp)
       have hS1 := keepS _ hB1
       first
         | (have h41 : ReqsIn w1 (.slice (some ⟨W.heap.size + 1, 0, none⟩) 1 1) [r] := ReqsIn.grown (show ReqsIn (World.drew ((W.alloc (.cells #[] 46)).alloc (.cells r.cells 46))) _ _ from reqs_one_at (W.alloc (.cells #[] 46)) r (W.heap.size + 1) (by simp)) hg1 (.inr fun e => absurd (show W.heap.size + 1 = W.heap.size from Option.some.inj e) (by omega)))
         | (have h41 : ReqsIn w1 (.slice (some ⟨W.heap.size, 0, none⟩) 1 1) [r] := at_c _ _ _ hg1)
         | skip)
    | ((refine step_append_reqs (by rfl) (.tmp 39) (.tmp 41) (by rfl) W.heap.size _ _ ([] ++ (([] : List Req))) [r] (by rfl) (by rfl) ?_ ?_ ?_ ?_ ?_)
       · first | exact hown1 | exact hown1.alloc _
       · first | exact h41 | exact reqs_one_at _ r _ rfl
       · simp only [List.nil_append, List.length_cons, List.length_nil]; omega
       · have := hB1.size; simp; omega
       intro v2 w2 hown2 hg2
       have hB2 : RowKit.Below W.heap.size W w2 := by (refine RowKit.Below.grown (w' := _) ?_ hg2 ?_ (fun q hq => (hown1.lt q hq).1); (first | exact hB1 | exact hB1.alloc hB1.size _ | exact (hB1.alloc hB1.size _).drew | exact hB1.drew); (have := hB1.size; simp; omega))
       have hS2 := keepS _ hB2))
  all_goals exact HQ.out _ _ _ _ _ _ _ _ _ _ _ _ _ _ ⟨by first | exact hB3 | exact hB3.drew, by have h := reqsIn_own hown3; rw [show [] ++ [] ++ [r] ++ [] = [r] by simp] at h; exact h⟩
end Go.Proofs.YtanmmooflhomoaaGreatDoor
