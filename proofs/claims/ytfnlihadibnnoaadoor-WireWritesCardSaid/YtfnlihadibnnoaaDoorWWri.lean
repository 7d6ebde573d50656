/- WireWrites: walked once. -/
import Derived.Test.YtfnlihadibnnoaaDoorWArg
import Derived.Test.YtfnlihadibnnoaaDoorQFlow
namespace Go.Proofs.YtfnlihadibnnoaaDoor
open Go Go.RowKit Go.Sort Go.Lib

theorem IntsAt.take {w : World} {b o : Nat} {l : List Int} (h : IntsAt w b o l) (n : Nat) : IntsAt w b o (l.take n) := fun k hk => by
  rw [List.length_take] at hk
  rw [takeD (by omega)]
  exact h k (by omega)
theorem IntsV.take {w : World} {a : Option Addr} {c n0 : Nat} {l : List Int} (h : IntsV w (.slice a n0 c) l) (n c' : Nat) : IntsV w (.slice a (l.take n).length c') (l.take n) := by
  obtain ⟨base, c2, e, h⟩ := h
  injection e with e1 e2 e3
  subst e1
  refine ⟨_, _, rfl, fun hn => ?_⟩
  obtain ⟨b, o, e, h2⟩ := h (fun e => hn (by rw [e]; simp))
  exact ⟨b, o, e, h2.take n⟩
set_option maxHeartbeats 4000000 in
set_option maxRecDepth 100000 in
theorem writes_any {w : World} (v0 : Value) (l : List Int) (h0 : IntsV w v0 l ∧ Shape v0 l.length) (v1 : Value) (t : List ByteArray) (h1 : StrsV w v1 t) (hr : Ready w) :
    Calls Tryd.prog 3 #[v0, v1] w fun e w' => e = .returned (.bool true) ∧ RowKit.Below w.heap.size w w' := by
  obtain ⟨hI, hsh⟩ := h0
  obtain ⟨rfl, hz⟩ | ⟨a, c, rfl, hc, hm⟩ := hsh
  · obtain rfl : l = [] := List.eq_nil_of_length_eq_zero hz
    go_enter Tryd.func3, Tryd.ntmps3
    go_wp2_with fail
    refine (sanity_any _ hr).mono ?_
    rintro x w1 ⟨rfl, hb⟩
    replace hr := hr.below hb
    have hI1 := hI.below hb
    have hS1 := h1.below hb
    have hB := hb
    clear hb hI h1
    go_wp2_with fail
    have hm0 : (0 : Int) ≤ min (0 : Int) 40 := by omega
    have hm1 : min (0 : Int) 40 ≤ 0 := by omega
    have hm2 : min (0 : Int) 40 ≤ 0 := by omega
    have hd : RowKit.Below w1.heap.size w1 w1.drew := (Below.refl _ _).drew
    refine of_onlyN ?_ (fun _ _ h => h)
    refine wp_region_flow (S := fun w' => RowKit.Below w1.heap.size w1 w') [(0, true), (1, true), (2, true), (3, true), (4, true), (5, true), (6, false), (7, true), (8, true)] (by kernel_rfl) (by kernel_rfl) (by kernel_rfl) (by decide) (hd) ?_
    have hS := hd
    refine flow_take ⟨some 11, _, _, _, _, _⟩ ?_ rfl (by rfl) ?_ ?_
    rotate_left 1
    · intro w hSw; (try dsimp only at hSw); go_simp; (try with_reducible rfl)
    simp only [Act.put, List.setIfInBounds_toArray, List.set_cons_zero, List.set_cons_succ]
    refine flow_take ⟨some 12, _, _, _, _, _⟩ ?_ rfl (by rfl) ?_ ?_
    rotate_left 1
    · intro w hSw; (try dsimp only at hSw); go_simp; (try with_reducible rfl)
    simp only [Act.put, List.setIfInBounds_toArray, List.set_cons_zero, List.set_cons_succ]
    refine flow_take ⟨some 13, _, _, _, _, _⟩ ?_ rfl (by rfl) ?_ ?_
    rotate_left 1
    · intro w hSw; (try dsimp only at hSw); go_simp; (try with_reducible rfl)
    simp only [Act.put, List.setIfInBounds_toArray, List.set_cons_zero, List.set_cons_succ]
    refine flow_take ⟨some 14, _, _, _, _, _⟩ ?_ rfl (by rfl) ?_ ?_
    rotate_left 1
    · intro w hSw; (try dsimp only at hSw); go_simp; (try with_reducible rfl)
    simp only [Act.put, List.setIfInBounds_toArray, List.set_cons_zero, List.set_cons_succ]
    refine flow_take ⟨some 15, _, _, _, _, _⟩ ?_ rfl (by rfl) ?_ ?_
    rotate_left 1
    · intro w hSw; (try dsimp only at hSw); go_simp; (try with_reducible rfl)
    simp only [Act.put, List.setIfInBounds_toArray, List.set_cons_zero, List.set_cons_succ]
    refine flow_take ⟨some 16, _, _, _, _, _⟩ ?_ rfl (by rfl) ?_ ?_
    rotate_left 1
    · intro w hSw; (try dsimp only at hSw); go_simp; (try with_reducible rfl)
    simp only [Act.put, List.setIfInBounds_toArray, List.set_cons_zero, List.set_cons_succ]
    refine flow_call ⟨some 17, _, _, _, _, _⟩ rfl (by rfl) 11 _ _ (by rfl) _ (by rfl) Tryd.call11 (cut_law v1 t _ (hS1.below hS)) ?_; rintro x wn ⟨u, rfl, hu, hb⟩; replace hS := below_next hS hb; have hN := hB; replace hN := below_next hB hS; refine ⟨_, rfl, hS, ?_⟩; (try clear hb)
    simp only [Act.put, List.setIfInBounds_toArray, List.set_cons_zero, List.set_cons_succ]
    refine flow_take ⟨some 0, _, _, _, _, _⟩ ?_ rfl (by rfl) ?_ ?_
    rotate_left 1
    · intro w hSw; (try dsimp only at hSw); go_simp; (try with_reducible rfl)
    simp only [Act.put, List.setIfInBounds_toArray, List.set_cons_zero]
    refine flow_take ⟨some 1, _, _, _, _, _⟩ ?_ rfl (by rfl) ?_ ?_
    rotate_left 1
    · intro w hSw; (try dsimp only at hSw); go_simp; (try with_reducible rfl)
    simp only [Act.put, List.setIfInBounds_toArray, List.set_cons_zero, List.set_cons_succ]
    simp only [wpFlow, OnlyN]
    have hT := txtsV_own hu (fun x hx => by have := cutL_short t x hx; omega)
    obtain ⟨bs, ct, rfl, hT2⟩ := id hT
    have hlen := cutL_len t
    replace hr := hr.below hS
    have hIn := hI1.below hS
    clear hI1 hS1 hu hS hd hB
    go_wp2_with fail
    refine wp_loop_rounds 1 ?_
    rw [rounds_succ]
    go_wp2_with fail
    obtain ⟨V, hV⟩ : ∃ V, V = wn := ⟨_, rfl⟩
    subst hV
    have hB := hN
    have HI := Lib.hid hIn
    have HT := Lib.hid hT2
    have HTV := Lib.hid hT
    clear hN hIn hT2 hT
    go_loopw [32, 9] (fun i _ wr => ∃ k : Nat, k ≤ (cutL t).length ∧ i = .int .i64 k ∧ RowKit.Below V.heap.size V wr) (fun i _ _ => (cutL t).length - (RowKit.intOf i).toNat)
    case atStart => exact ⟨0, Nat.zero_le _, rfl, Below.refl _ _⟩
    case round =>
      obtain ⟨k, hk, rfl, hbr⟩ := hrel
      by_cases hlt : k < (cutL t).length
      · obtain ⟨b, o, rfl, hat⟩ := HT.out (fun e => by rw [e] at hlt; simp at hlt)
        obtain ⟨hc, hz⟩ := (hat.below hbr) k hlt
        have hrr := hr.below hbr
        generalize (cutL t).getD k ⟨#[]⟩ = x at hc hz
        clear hat
        go_wp2_with fail
        refine (wireText_any x wr hz hrr.sane.1).mono ?_
        rintro y w5 ⟨rfl, hb⟩
        replace hbr := below_next hbr hb
        go_wp2_with fail
        refine (refText_any x hz w5).mono ?_
        rintro y w6 ⟨rfl, hb6⟩
        replace hbr := below_next hbr hb6
        go_wp2_with fail
        go_roundw
        case rel => exact ⟨k + 1, by omega, by go_num, hbr⟩
        case measure => simp [RowKit.intOf]; omega
      · obtain rfl : k = (cutL t).length := by omega
        have hrr := hr.below hbr
        have hBr := below_next hB hbr
        have hIr := HI.out.below hbr
        have hTr := HTV.out.below hbr
        go_wp2_with fail
        refine (wireIntsV_any _ _ (by simp) _ hIr hrr.sane.1).mono ?_
        rintro y w5 ⟨rfl, hb⟩
        replace hBr := below_next hBr hb
        replace hrr := hrr.below hb
        replace hIr := hIr.below hb
        replace hTr := hTr.below hb
        clear hb
        go_wp2_with fail
        refine (refIntsV_any _ _ (by simp) _ hIr).mono ?_
        rintro y w6 ⟨rfl, hb⟩
        replace hBr := below_next hBr hb
        replace hrr := hrr.below hb
        replace hTr := hTr.below hb
        clear hb
        go_wp2_with fail
        refine (wireTextsV_any _ _ (by omega) _ hTr hrr.sane.1).mono ?_
        rintro y w7 ⟨rfl, hb⟩
        replace hBr := below_next hBr hb
        replace hrr := hrr.below hb
        replace hTr := hTr.below hb
        clear hb
        go_wp2_with fail
        refine (refTextsV_any _ _ (by omega) _ hTr).mono ?_
        rintro y w8 ⟨rfl, hb⟩
        replace hBr := below_next hBr hb
        clear hb
        go_wp2_with fail
        go_ret
        exact ⟨rfl, hBr⟩
  · have hcut : (min (l.length : Int) 40).toNat = (l.take 40).length := by rw [List.length_take]; omega
    go_enter Tryd.func3, Tryd.ntmps3
    go_wp2_with fail
    refine (sanity_any _ hr).mono ?_
    rintro x w1 ⟨rfl, hb⟩
    replace hr := hr.below hb
    have hI1 := hI.below hb
    have hS1 := h1.below hb
    have hB := hb
    clear hb hI h1
    go_wp2_with fail
    have hm0 : (0 : Int) ≤ min (l.length : Int) 40 := by omega
    have hm1 : min (l.length : Int) 40 ≤ l.length := by omega
    have hm2 : min (l.length : Int) 40 ≤ c := by omega
    have hd : RowKit.Below w1.heap.size w1 w1.drew := (Below.refl _ _).drew
    refine of_onlyN ?_ (fun _ _ h => h)
    refine wp_region_flow (S := fun w' => RowKit.Below w1.heap.size w1 w') [(0, true), (1, true), (2, true), (3, true), (4, true), (5, true), (6, false), (7, true), (8, true)] (by kernel_rfl) (by kernel_rfl) (by kernel_rfl) (by decide) (hd) ?_
    have hS := hd
    refine flow_take ⟨some 11, _, _, _, _, _⟩ ?_ rfl (by rfl) ?_ ?_
    rotate_left 1
    · intro w hSw; (try dsimp only at hSw); go_simp; (try with_reducible rfl)
    simp only [Act.put, List.setIfInBounds_toArray, List.set_cons_zero, List.set_cons_succ]
    refine flow_take ⟨some 12, _, _, _, _, _⟩ ?_ rfl (by rfl) ?_ ?_
    rotate_left 1
    · intro w hSw; (try dsimp only at hSw); go_simp; (try with_reducible rfl)
    simp only [Act.put, List.setIfInBounds_toArray, List.set_cons_zero, List.set_cons_succ]
    refine flow_take ⟨some 13, _, _, _, _, _⟩ ?_ rfl (by rfl) ?_ ?_
    rotate_left 1
    · intro w hSw; (try dsimp only at hSw); go_simp; (try with_reducible rfl)
    simp only [Act.put, List.setIfInBounds_toArray, List.set_cons_zero, List.set_cons_succ]
    refine flow_take ⟨some 14, _, _, _, _, _⟩ ?_ rfl (by rfl) ?_ ?_
    rotate_left 1
    · intro w hSw; (try dsimp only at hSw); go_simp; (try with_reducible rfl)
    simp only [Act.put, List.setIfInBounds_toArray, List.set_cons_zero, List.set_cons_succ]
    refine flow_take ⟨some 15, _, _, _, _, _⟩ ?_ rfl (by rfl) ?_ ?_
    rotate_left 1
    · intro w hSw; (try dsimp only at hSw); go_simp; (try with_reducible rfl)
    simp only [Act.put, List.setIfInBounds_toArray, List.set_cons_zero, List.set_cons_succ]
    refine flow_take ⟨some 16, _, _, _, _, _⟩ ?_ rfl (by rfl) ?_ ?_
    rotate_left 1
    · intro w hSw; (try dsimp only at hSw); go_simp; (try with_reducible rfl)
    simp only [Act.put, List.setIfInBounds_toArray, List.set_cons_zero, List.set_cons_succ]
    refine flow_call ⟨some 17, _, _, _, _, _⟩ rfl (by rfl) 11 _ _ (by rfl) _ (by rfl) Tryd.call11 (cut_law v1 t _ (hS1.below hS)) ?_; rintro x wn ⟨u, rfl, hu, hb⟩; replace hS := below_next hS hb; have hN := hB; replace hN := below_next hB hS; refine ⟨_, rfl, hS, ?_⟩; (try clear hb)
    simp only [Act.put, List.setIfInBounds_toArray, List.set_cons_zero, List.set_cons_succ]
    refine flow_take ⟨some 0, _, _, _, _, _⟩ ?_ rfl (by rfl) ?_ ?_
    rotate_left 1
    · intro w hSw; (try dsimp only at hSw); go_simp; (try with_reducible rfl)
    simp only [Act.put, List.setIfInBounds_toArray, List.set_cons_zero]
    refine flow_take ⟨some 1, _, _, _, _, _⟩ ?_ rfl (by rfl) ?_ ?_
    rotate_left 1
    · intro w hSw; (try dsimp only at hSw); go_simp; (try with_reducible rfl)
    simp only [Act.put, List.setIfInBounds_toArray, List.set_cons_zero, List.set_cons_succ]
    simp only [wpFlow, OnlyN]
    have hT := txtsV_own hu (fun x hx => by have := cutL_short t x hx; omega)
    obtain ⟨bs, ct, rfl, hT2⟩ := id hT
    have hlen := cutL_len t
    replace hr := hr.below hS
    have hIn := hI1.below hS
    clear hI1 hS1 hu hS hd hB
    rw [← List.length_take]
    have hIm := hIn.take 40 c
    have hm40 : (l.take 40).length ≤ 40 := by rw [List.length_take]; omega
    clear hIn hcut hm0 hm1 hm2
    generalize l.take 40 = m at hIm hm40 ⊢
    generalize some a = A at hIm ⊢
    have HI0 := Lib.hid hIm
    have HT0 := Lib.hid hT2
    have HTV0 := Lib.hid hT
    obtain ⟨bi, ci, e, hI2⟩ := hIm
    injection e with e1 e2 e3
    subst e1
    clear e2 e3 hT2 hT
    have HI2 := Lib.hid hI2
    clear hI2
    go_wp2_with fail
    go_loopw [20, 7] (fun i _ wr => ∃ k : Nat, k ≤ m.length ∧ i = .int .i64 k ∧ RowKit.Below wn.heap.size wn wr) (fun i _ _ => m.length - (RowKit.intOf i).toNat)
    case atStart => exact ⟨0, Nat.zero_le _, rfl, Below.refl _ _⟩
    case round =>
     obtain ⟨k, hk, rfl, hbr⟩ := hrel
     by_cases hlt : k < m.length
     · obtain ⟨b, o, rfl, hat⟩ := HI2.out (fun e => by rw [e] at hlt; simp at hlt)
       obtain ⟨hc, hz⟩ := (hat.below hbr) k hlt
       have hrr := hr.below hbr
       generalize m.getD k 0 = x at hc hz
       clear hat
       go_wp2_with fail
       refine (wireInt_any x wr hz.1 hz.2 hrr.sane.1).mono ?_
       rintro y w5 ⟨rfl, hb⟩
       replace hbr := below_next hbr hb
       go_wp2_with fail
       refine (refInt_any x hz.1 hz.2 w5).mono ?_
       rintro y w6 ⟨rfl, hb6⟩
       replace hbr := below_next hbr hb6
       go_wp2_with fail
       go_roundw
       case rel => exact ⟨k + 1, by omega, by go_num, hbr⟩
       case measure => simp [RowKit.intOf]; omega
     · obtain rfl : k = m.length := by omega
       go_wp2_with fail
       obtain ⟨V, hV⟩ : ∃ V, V = wr := ⟨_, rfl⟩
       subst hV
       have hB := below_next hN hbr
       replace hr := hr.below hbr
       have HI := Lib.hid (HI0.out.below hbr)
       have HTV := Lib.hid (HTV0.out.below hbr)
       have HT : Hid (cutL t ≠ [] → ∃ b o, bs = some ⟨b, o, none⟩ ∧ TxtsAt V b o (cutL t)) := Lib.hid fun hn => by
         obtain ⟨b, o, e, h⟩ := HT0.out hn
         exact ⟨b, o, e, h.below hbr⟩
       clear HI0 HTV0 HT0 HI2 hN hbr hk hlt
       go_loopw [32, 9] (fun i _ wr => ∃ k : Nat, k ≤ (cutL t).length ∧ i = .int .i64 k ∧ RowKit.Below V.heap.size V wr) (fun i _ _ => (cutL t).length - (RowKit.intOf i).toNat)
       case atStart => exact ⟨0, Nat.zero_le _, rfl, Below.refl _ _⟩
       case round =>
         obtain ⟨k, hk, rfl, hbr⟩ := hrel
         by_cases hlt : k < (cutL t).length
         · obtain ⟨b, o, rfl, hat⟩ := HT.out (fun e => by rw [e] at hlt; simp at hlt)
           obtain ⟨hc, hz⟩ := (hat.below hbr) k hlt
           have hrr := hr.below hbr
           generalize (cutL t).getD k ⟨#[]⟩ = x at hc hz
           clear hat
           go_wp2_with fail
           refine (wireText_any x wr hz hrr.sane.1).mono ?_
           rintro y w5 ⟨rfl, hb⟩
           replace hbr := below_next hbr hb
           go_wp2_with fail
           refine (refText_any x hz w5).mono ?_
           rintro y w6 ⟨rfl, hb6⟩
           replace hbr := below_next hbr hb6
           go_wp2_with fail
           go_roundw
           case rel => exact ⟨k + 1, by omega, by go_num, hbr⟩
           case measure => simp [RowKit.intOf]; omega
         · obtain rfl : k = (cutL t).length := by omega
           have hrr := hr.below hbr
           have hBr := below_next hB hbr
           have hIr := HI.out.below hbr
           have hTr := HTV.out.below hbr
           go_wp2_with fail
           refine (wireIntsV_any _ _ (by omega) _ hIr hrr.sane.1).mono ?_
           rintro y w5 ⟨rfl, hb⟩
           replace hBr := below_next hBr hb
           replace hrr := hrr.below hb
           replace hIr := hIr.below hb
           replace hTr := hTr.below hb
           clear hb
           go_wp2_with fail
           refine (refIntsV_any _ _ (by omega) _ hIr).mono ?_
           rintro y w6 ⟨rfl, hb⟩
           replace hBr := below_next hBr hb
           replace hrr := hrr.below hb
           replace hTr := hTr.below hb
           clear hb
           go_wp2_with fail
           refine (wireTextsV_any _ _ (by omega) _ hTr hrr.sane.1).mono ?_
           rintro y w7 ⟨rfl, hb⟩
           replace hBr := below_next hBr hb
           replace hrr := hrr.below hb
           replace hTr := hTr.below hb
           clear hb
           go_wp2_with fail
           refine (refTextsV_any _ _ (by omega) _ hTr).mono ?_
           rintro y w8 ⟨rfl, hb⟩
           replace hBr := below_next hBr hb
           clear hb
           go_wp2_with fail
           go_ret
           exact ⟨rfl, hBr⟩
end Go.Proofs.YtfnlihadibnnoaaDoor
