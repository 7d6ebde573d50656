/- The reference's Order, in plain words: a permutation, in order. -/
import Derived.Test.YteopjiedjnaeiaaGreatDgay
import Derived.Test.YteopjiedjnaeiaaGreatDgaa
import Derived.Test.YteopjiedjnaeiaaGreatDgaz
/- The reference of layer 28: Order. -/
namespace Go.Proofs.YteopjiedjnaeiaaGreat
open Go Go.Proofs Go.RowKit Go.Maps Go.Sort Go.Lib


set_option maxHeartbeats 4000000 in
set_option maxRecDepth 100000 in
theorem ord_r6a {s0 s1 s2 s4 s6 s7 s8 s9 s10 s11 s12 s13 s14 s15 s16 s17 s18 s19 s20 s21 s22 s23 s24 s25 s26 s27 s28 s29 s30 s31 s32 s33 s34 s35 s36 s37 s38 s39 s40 s41 s42 s43 s44 s45 s46 s47 s48 : Value} (W0 : World) (B g n c : Nat) (X : List Req) (W : World) (Q : Exit → Act → World → Prop) (_h : OrdSt W0 B g X W) (_hB : B ≤ W.heap.size) (_hn : X.length = n) (_h1 : n ≤ 1000000)
    (hQ : ∀ (u16 u17 u18 u19 u20 u21 u22 u23 u24 u25 u26 u27 u28 : Value) (wx : World), RowKit.Below W.heap.size W wx → Q .normal ⟨List.toArray (s0 :: s1 :: s2 :: .slice (some ⟨g, 0, none⟩) n c :: s4 :: .int .i64 0 :: s6 :: s7 :: s8 :: s9 :: s10 :: s11 :: s12 :: s13 :: s14 :: s15 :: u16 :: u17 :: u18 :: u19 :: u20 :: u21 :: u22 :: u23 :: u24 :: u25 :: u26 :: u27 :: u28 :: .bool false :: s30 :: s31 :: s32 :: s33 :: s34 :: s35 :: s36 :: s37 :: s38 :: s39 :: s40 :: s41 :: s42 :: s43 :: s44 :: s45 :: s46 :: s47 :: s48 :: []), []⟩ wx) :
    (regionOf Tryz.f28 6).wp Tryz.prog Q ⟨List.toArray (s0 :: s1 :: s2 :: .slice (some ⟨g, 0, none⟩) n c :: s4 :: .int .i64 0 :: s6 :: s7 :: s8 :: s9 :: s10 :: s11 :: s12 :: s13 :: s14 :: s15 :: s16 :: s17 :: s18 :: s19 :: s20 :: s21 :: s22 :: s23 :: s24 :: s25 :: s26 :: s27 :: s28 :: s29 :: s30 :: s31 :: s32 :: s33 :: s34 :: s35 :: s36 :: s37 :: s38 :: s39 :: s40 :: s41 :: s42 :: s43 :: s44 :: s45 :: s46 :: s47 :: s48 :: []), []⟩ W := by
  refine of_onlyN (K := Q .normal) ?_ (fun _ _ h => h)
  generalize Q .normal = K at hQ ⊢
  have HQ := Lib.hid hQ; clear hQ
  conv => arg 2; whnf
  have hS0 : RowKit.Below W.heap.size W W.drew := (Below.refl _ _).drew
  refine of_onlyN ?_ (fun _ _ h => h)
  refine wp_region_flow (S := fun w' => RowKit.Below W.heap.size W w') [(0, true), (1, true), (2, true), (3, true), (4, true), (5, true), (6, true), (7, true), (8, true), (9, true), (10, true), (11, true), (12, false), (13, true)] (by kernel_rfl) (by kernel_rfl) (by kernel_rfl) (by decide) (hS0) ?_
  have hS := hS0
  refine flow_take ⟨some 16, _, _, _, _, _⟩ ?_ rfl (by rfl) ?_ ?_
  rotate_left 1
  · intro w hSw; (try dsimp only at hSw); go_simp; (try with_reducible rfl)
  simp only [Act.put, List.setIfInBounds_toArray, List.set_cons_zero, List.set_cons_succ]
  refine flow_take ⟨some 17, _, _, _, _, _⟩ ?_ rfl (by rfl) ?_ ?_
  rotate_left 1
  · intro w hSw; (try dsimp only at hSw); go_simp; (try with_reducible rfl)
  simp only [Act.put, List.setIfInBounds_toArray, List.set_cons_zero, List.set_cons_succ]
  refine flow_take ⟨some 18, _, _, _, _, _⟩ ?_ rfl (by rfl) ?_ ?_
  rotate_left 1
  · intro w hSw; (try dsimp only at hSw); go_simp; (try with_reducible rfl)
  simp only [Act.put, List.setIfInBounds_toArray, List.set_cons_zero, List.set_cons_succ]
  refine flow_skip ⟨some 19, _, _, _, _, _⟩ rfl (by rfl) ?_
  simp only [Act.put, List.setIfInBounds_toArray, List.set_cons_zero, List.set_cons_succ]
  refine flow_skip ⟨some 20, _, _, _, _, _⟩ rfl (by rfl) ?_
  simp only [Act.put, List.setIfInBounds_toArray, List.set_cons_zero, List.set_cons_succ]
  refine flow_skip ⟨some 21, _, _, _, _, _⟩ rfl (by rfl) ?_
  simp only [Act.put, List.setIfInBounds_toArray, List.set_cons_zero, List.set_cons_succ]
  refine flow_skip ⟨some 22, _, _, _, _, _⟩ rfl (by rfl) ?_
  simp only [Act.put, List.setIfInBounds_toArray, List.set_cons_zero, List.set_cons_succ]
  refine flow_skip ⟨some 23, _, _, _, _, _⟩ rfl (by rfl) ?_
  simp only [Act.put, List.setIfInBounds_toArray, List.set_cons_zero, List.set_cons_succ]
  refine flow_skip ⟨some 24, _, _, _, _, _⟩ rfl (by rfl) ?_
  simp only [Act.put, List.setIfInBounds_toArray, List.set_cons_zero, List.set_cons_succ]
  refine flow_skip ⟨some 25, _, _, _, _, _⟩ rfl (by rfl) ?_
  simp only [Act.put, List.setIfInBounds_toArray, List.set_cons_zero, List.set_cons_succ]
  refine flow_skip ⟨some 26, _, _, _, _, _⟩ rfl (by rfl) ?_
  simp only [Act.put, List.setIfInBounds_toArray, List.set_cons_zero, List.set_cons_succ]
  refine flow_skip ⟨some 27, _, _, _, _, _⟩ rfl (by rfl) ?_
  simp only [Act.put, List.setIfInBounds_toArray, List.set_cons_zero, List.set_cons_succ]
  refine flow_skip' ⟨some 28, _, _, _, _, _⟩ rfl (by rfl) hS ?_
  simp only [Act.put, List.setIfInBounds_toArray, List.set_cons_zero, List.set_cons_succ]
  refine flow_take ⟨some 29, _, _, _, _, _⟩ ?_ rfl (by rfl) ?_ ?_
  rotate_left 1
  · intro w hSw; (try dsimp only at hSw); go_simp; (try with_reducible rfl)
  simp only [Act.put, List.setIfInBounds_toArray, List.set_cons_zero, List.set_cons_succ]
  simp only [wpFlow, OnlyN]
  exact HQ.out _ _ _ _ _ _ _ _ _ _ _ _ _ _ hS

set_option maxHeartbeats 4000000 in
set_option maxRecDepth 100000 in
theorem ord_r6b {s0 s1 s2 s4 s6 s7 s8 s9 s10 s11 s12 s13 s14 s15 s16 s17 s18 s19 s20 s21 s22 s23 s24 s25 s26 s27 s28 s29 s30 s31 s32 s33 s34 s35 s36 s37 s38 s39 s40 s41 s42 s43 s44 s45 s46 s47 s48 : Value} (W0 : World) (B g n c i : Nat) (X : List Req) (W : World) (Q : Exit → Act → World → Prop) (h : OrdSt W0 B g X W) (hB : B ≤ W.heap.size) (hn : X.length = n) (h1 : n ≤ 1000000) (hi : i + 1 < n)
    (hQ : ∀ (u16 u17 u18 u19 u20 u21 u22 u23 u24 u25 u26 u27 u28 : Value) (wx : World), RowKit.Below W.heap.size W wx → Q .normal ⟨List.toArray (s0 :: s1 :: s2 :: .slice (some ⟨g, 0, none⟩) n c :: s4 :: .int .i64 ((i : Int) + 1) :: s6 :: s7 :: s8 :: s9 :: s10 :: s11 :: s12 :: s13 :: s14 :: s15 :: u16 :: u17 :: u18 :: u19 :: u20 :: u21 :: u22 :: u23 :: u24 :: u25 :: u26 :: u27 :: u28 :: .bool (befR (elR X (i + 1)) (elR X i)) :: s30 :: s31 :: s32 :: s33 :: s34 :: s35 :: s36 :: s37 :: s38 :: s39 :: s40 :: s41 :: s42 :: s43 :: s44 :: s45 :: s46 :: s47 :: s48 :: []), []⟩ wx) :
    (regionOf Tryz.f28 6).wp Tryz.prog Q ⟨List.toArray (s0 :: s1 :: s2 :: .slice (some ⟨g, 0, none⟩) n c :: s4 :: .int .i64 ((i : Int) + 1) :: s6 :: s7 :: s8 :: s9 :: s10 :: s11 :: s12 :: s13 :: s14 :: s15 :: s16 :: s17 :: s18 :: s19 :: s20 :: s21 :: s22 :: s23 :: s24 :: s25 :: s26 :: s27 :: s28 :: s29 :: s30 :: s31 :: s32 :: s33 :: s34 :: s35 :: s36 :: s37 :: s38 :: s39 :: s40 :: s41 :: s42 :: s43 :: s44 :: s45 :: s46 :: s47 :: s48 :: []), []⟩ W := by
  refine of_onlyN (K := Q .normal) ?_ (fun _ _ h => h)
  generalize Q .normal = K at hQ ⊢
  have HQ := Lib.hid hQ; clear hQ
  conv => arg 2; whnf
  have hS0 : RowKit.Below W.heap.size W W.drew := (Below.refl _ _).drew
  have HO := Lib.hid h
  have HB := Lib.hid hB
  have hw1 : IntKind.i64.wrap (i : Int) = (i : Int) := IntWalk.i64_in _ (by omega)
  have hng : ¬ ((i : Int) + 1 < 0) := by omega
  have hlt1 : (i : Int) + 1 < (n : Int) := by omega
  have hlt0 : (i : Int) < (n : Int) := by omega
  have hgt : decide ((i : Int) + 1 > 0) = true := decide_eq_true (by omega)
  have hge : 0 ≤ (i : Int) + 1 := by omega
  clear h hB
  refine of_onlyN ?_ (fun _ _ h => h)
  refine wp_region_flow (S := fun w' => RowKit.Below W.heap.size W w') [(0, true), (1, true), (2, true), (3, true), (4, true), (5, true), (6, true), (7, true), (8, true), (9, true), (10, true), (11, true), (12, false), (13, true)] (by kernel_rfl) (by kernel_rfl) (by kernel_rfl) (by decide) (hS0) ?_
  have hS := hS0
  refine flow_take ⟨some 16, _, _, _, _, _⟩ ?_ rfl (by rfl) ?_ ?_
  rotate_left 1
  · intro w hSw; (try dsimp only at hSw); go_simp; (try with_reducible rfl)
  simp only [Act.put, List.setIfInBounds_toArray, List.set_cons_zero, List.set_cons_succ]
  refine flow_take ⟨some 17, _, _, _, _, _⟩ ?_ rfl (by rfl) ?_ ?_
  rotate_left 1
  · intro w hSw; (try dsimp only at hSw); go_simp; (try with_reducible rfl)
  simp only [Act.put, List.setIfInBounds_toArray, List.set_cons_zero, List.set_cons_succ]
  refine flow_take ⟨some 18, _, _, _, _, _⟩ ?_ rfl (by rfl) ?_ ?_
  rotate_left 1
  · intro w hSw; (try dsimp only at hSw); go_simp; (try with_reducible rfl)
  simp only [Act.put, List.setIfInBounds_toArray, List.set_cons_zero, List.set_cons_succ]
  refine flow_take ⟨some 19, _, _, _, _, _⟩ ?_ rfl (by rfl) ?_ ?_
  rotate_left 1
  · intro w hSw; (try dsimp only at hSw); go_simp; (try with_reducible rfl)
  simp only [Act.put, List.setIfInBounds_toArray, List.set_cons_zero, List.set_cons_succ]
  refine flow_take ⟨some 20, _, _, _, _, _⟩ ?_ rfl (by rfl) ?_ ?_
  rotate_left 1
  · intro w hSw; (try dsimp only at hSw); go_simp; (try with_reducible rfl)
  simp only [Act.put, List.setIfInBounds_toArray, List.set_cons_zero, List.set_cons_succ]
  refine flow_take ⟨some 21, _, _, _, _, _⟩ ?_ rfl (by rfl) ?_ ?_
  rotate_left 1
  · intro w hSw; (try dsimp only at hSw); go_simp; (try with_reducible rfl)
  simp only [Act.put, List.setIfInBounds_toArray, List.set_cons_zero, List.set_cons_succ]
  refine flow_take ⟨some 22, _, _, _, _, _⟩ (elR X (i + 1)).val rfl (by rfl) (fun w hS => run_load_req _ (.tmp 21) (by rfl) w g _ _ (((HO.out.next hS HB.out).row (i + 1) _ (elR_get (by omega)))) (by rfl)) ?_
  (try simp only [Act.put, List.setIfInBounds_toArray, List.set_cons_zero, List.set_cons_succ])
  refine flow_take ⟨some 23, _, _, _, _, _⟩ ?_ rfl (by rfl) ?_ ?_
  rotate_left 1
  · intro w hSw; (try dsimp only at hSw); go_simp; (try with_reducible rfl)
  simp only [Act.put, List.setIfInBounds_toArray, List.set_cons_zero, List.set_cons_succ]
  refine flow_take ⟨some 24, _, _, _, _, _⟩ ?_ rfl (by rfl) ?_ ?_
  rotate_left 1
  · intro w hSw; (try dsimp only at hSw); go_simp; (try with_reducible rfl)
  simp only [Act.put, List.setIfInBounds_toArray, List.set_cons_zero, List.set_cons_succ]
  refine flow_take ⟨some 25, _, _, _, _, _⟩ ?_ rfl (by rfl) ?_ ?_
  rotate_left 1
  · intro w hSw; (try dsimp only at hSw); go_simp; (try with_reducible rfl)
  simp only [Act.put, List.setIfInBounds_toArray, List.set_cons_zero, List.set_cons_succ]
  refine flow_take ⟨some 26, _, _, _, _, _⟩ ?_ rfl (by rfl) ?_ ?_
  rotate_left 1
  · intro w hSw; (try dsimp only at hSw); go_simp; (try with_reducible rfl)
  simp only [Act.put, List.setIfInBounds_toArray, List.set_cons_zero, List.set_cons_succ]
  refine flow_take ⟨some 27, _, _, _, _, _⟩ (elR X i).val rfl (by rfl) (fun w hS => run_load_req _ (.tmp 26) (by rfl) w g _ _ (((HO.out.next hS HB.out).row (i) _ (elR_get (by omega)))) (by rfl)) ?_
  (try simp only [Act.put, List.setIfInBounds_toArray, List.set_cons_zero, List.set_cons_succ])
  refine flow_call ⟨some 28, _, _, _, _, _⟩ rfl (by rfl) 45 _ _ (by rfl) _ (by rfl) Tryz.call45 (before_any (elR X (i + 1)) (elR X i) _) ?_; rintro x wn ⟨rfl, hb⟩; replace hS := below_next hS hb; refine ⟨_, rfl, hS, ?_⟩; (try clear hb)
  simp only [Act.put, List.setIfInBounds_toArray, List.set_cons_zero, List.set_cons_succ]
  refine flow_take ⟨some 29, _, _, _, _, _⟩ ?_ rfl (by rfl) ?_ ?_
  rotate_left 1
  · intro w hSw; (try dsimp only at hSw); go_simp; (try with_reducible rfl)
  simp only [Act.put, List.setIfInBounds_toArray, List.set_cons_zero, List.set_cons_succ]
  simp only [wpFlow, OnlyN]
  exact HQ.out _ _ _ _ _ _ _ _ _ _ _ _ _ _ hS

theorem ord_own {w : World} {base : Nat} {t : TypeId} {v : Value} {l : List Req} (h : w.ownsRow base t 9 v ([] ++ l).length (reqCells ([] ++ l))) : ∃ p c, v = .slice p l.length c ∧ w.ownsRow base t 9 (.slice p l.length c) l.length (reqCells l) ∧ (0 < l.length → ∃ g, p = some ⟨g, 0, none⟩ ∧ l.length ≤ c) := by
  rw [List.nil_append] at h
  rcases h.2 with ⟨rfl, h0⟩ | ⟨g, cap, cur, rfl, h1, hg, h2, _⟩
  · rw [h0] at h ⊢
    exact ⟨none, 0, rfl, h, fun hp => by omega⟩
  · exact ⟨_, _, rfl, h, fun _ => ⟨g, rfl, h2⟩⟩
set_option maxHeartbeats 8000000 in
set_option maxRecDepth 100000 in
theorem refOrder_any (v : Value) (l : List Req) (w : World) (hv : ReqsIn w v l) (hl : l.length ≤ 900) :
    Calls Tryz.prog 28 #[v] w fun e w' => ∃ v', e = .returned v' ∧ ReqsIn w' v' (ordP l l.length) ∧ RowKit.Below w.heap.size w w' := by
  have hbA := below_alloc1 w (.cells #[] 39)
  have hown : (w.alloc (.cells #[] 39)).ownsRow w.heap.size 39 9 (.slice (some ⟨w.heap.size, 0, none⟩) 0 0) 0 (reqCells []) := World.ownsRow_made w #[] 0 (Nat.le_refl _) (Nat.zero_le _) rfl
  have HRA := Lib.hid (hv.below hbA)
  have HLL : Hid (([] : List Req).length + l.length ≤ 1000000) := Lib.hid (by simp; omega)
  have HSZ : Hid (w.heap.size ≤ (w.alloc (.cells #[] 39)).heap.size) := Lib.hid (by simp)
  clear hv
  go_enter Tryz.func28, Tryz.ntmps28
  go_upto_region 2 with (at_builtin; refine wpList_append_reqs rfl (.tmp 6) (.tmp 7) rfl w.heap.size _ _ [] l rfl rfl hown HRA.out HLL.out HSZ.out ?_; intro vp w1 hown2 hgr2; replace hgr2 : (w.alloc (.cells #[] 39)).grownBy w1 (some w.heap.size) := hgr2; obtain ⟨p, c, rfl, hown3, hpg⟩ := ord_own hown2)
  have hb1 : RowKit.Below w.heap.size w w1 := hbA.grown hgr2 hbA.size (fun q hq => by obtain rfl := Option.some.inj hq; exact Nat.le_refl _)
  clear hown2 hown hgr2 hbA HRA HLL HSZ
  obtain ⟨n, hn⟩ : ∃ n, l.length = n := ⟨_, rfl⟩
  have HN := Lib.hid hn
  rcases Nat.eq_zero_or_pos l.length with h0 | h0
  · have hr := reqsIn_own hown3
    rw [h0] at hr hown3 ⊢
    have HR := Lib.hid hr
    clear hr hown3 hpg
    go_wp2_with fail
    refine wp_loop_rounds 1 ?_
    rw [rounds_succ]
    go_wp2_with fail
    go_ret
    exact ⟨_, rfl, by rw [h0]; exact HR.out, hb1⟩
  · obtain ⟨g, rfl, hc⟩ := hpg h0
    have hst := OrdSt.own hb1 hown3
    rw [hn] at hl h0 hc hown3 ⊢
    have HST := Lib.hid hst
    have HS1 := Lib.hid hb1.size
    clear hst hpg hown3 hn
    go_wp2_with fail
    go_loopw [4] (fun vk wr => ∃ k : Nat, k ≤ n ∧ vk = .int .i64 k ∧ Hid (OrdSt w w.heap.size g (ordP l k) wr) ∧ w.heap.size ≤ wr.heap.size) (fun vk _ => n - (RowKit.intOf vk).toNat)
    case atStart => exact ⟨0, Nat.zero_le _, rfl, HST, HS1.out⟩
    case round =>
      clear HST
      obtain ⟨k, hk, rfl, HT, hsz⟩ := hrel
      by_cases hlt : k < n
      · go_wp2_with fail
        generalize wr = W2 at HT hsz ⊢
        go_loopw [5] (fun vi wr => ∃ (i : Nat) (X : List Req), i ≤ k ∧ vi = .int .i64 i ∧ Hid (insD X i = ordP l (k + 1)) ∧ X.length = n ∧ Hid (OrdSt w w.heap.size g X wr) ∧ w.heap.size ≤ wr.heap.size) (fun vi _ => (RowKit.intOf vi).toNat)
        case atStart => exact ⟨k, ordP l k, Nat.le_refl _, rfl, Lib.hid (ordP_succ l k).symm, by rw [ordP_len]; exact HN.out, HT, hsz⟩
        case round =>
          obtain ⟨i, X, hik, rfl, HI, hX, HO, hsz2⟩ := hrel
          cases i with
          | zero =>
            go_upto_region 6 with fail
            refine ord_r6a w w.heap.size g n c X wr _ HO.out hsz2 hX (by omega) ?_
            intros
            rename_i wx hwx
            have hO2 := Lib.hid (HO.out.next hwx hsz2)
            have hI2 : Hid (X = ordP l (k + 1)) := Lib.hid HI.out
            have hs3 := Nat.le_trans hsz2 hwx.size
            go_wp2_with fail
            go_roundw
            case rel => exact ⟨k + 1, by omega, by go_num, by rw [← hI2.out]; exact hO2, hs3⟩
            case measure => simp [RowKit.intOf]; omega
          | succ i =>
            have ec : ((i + 1 : Nat) : Int) = (i : Int) + 1 := by omega
            rw [ec]
            clear ec
            go_upto_region 6 with fail
            refine ord_r6b w w.heap.size g n c i X wr _ HO.out hsz2 hX (by omega) (by omega) ?_
            intros
            rename_i wx hwx
            have hO2 := Lib.hid (HO.out.next hwx hsz2)
            have hs3 := Nat.le_trans hsz2 hwx.size
            generalize hbf : befR (elR X (i + 1)) (elR X i) = G
            have HBF := Lib.hid hbf
            clear hbf
            cases G
            · have hI2 : Hid (X = ordP l (k + 1)) := Lib.hid (by
                have := HI.out
                unfold insD at this
                rwa [HBF.out, if_neg (by simp)] at this)
              go_wp2_with fail
              go_roundw
              case rel => exact ⟨k + 1, by omega, by go_num, by rw [← hI2.out]; exact hO2, hs3⟩
              case measure => simp [RowKit.intOf]; omega
            · have hI2 : Hid (insD (swapD X i) i = ordP l (k + 1)) := Lib.hid (by
                have := HI.out
                rw [insD, HBF.out, if_pos rfl] at this
                exact this)
              go_upto_region 8 with fail
              refine ord_r8 w w.heap.size g n c i X wx _ hO2.out hs3 hX (by omega) (by omega) hc ?_
              intros
              rename_i wy hwy
              have HY := Lib.hid hwy
              have hs4 := hwy.below.size
              clear hwy
              go_wp2_with fail
              go_roundw
              case rel => exact ⟨i, swapD X i, by omega, by go_num, hI2, by rw [swapD_len]; exact hX, HY, hs4⟩
              case measure => simp [RowKit.intOf]
      · obtain rfl : k = n := by omega
        have hr := HT.out.reqs (c := c) (by rw [ordP_len, HN.out]; exact hc)
        rw [ordP_len, HN.out] at hr
        have HR := Lib.hid hr
        have HB := Lib.hid HT.out.below
        clear hr
        go_wp2_with fail
        go_ret
        exact ⟨_, rfl, by rw [HN.out]; exact HR.out, HB.out⟩

end Go.Proofs.YteopjiedjnaeiaaGreat
/- slices' rotate and swapRange at requests. -/
namespace Go.Proofs.YteopjiedjnaeiaaGreat
open Go Go.Proofs Go.RowKit Go.Maps Go.Sort Go.Lib

theorem there_set {w : World} {g o n o1 : Nat} {vs : List Value} (h : w.there g o n) (h1 : w.there g o1 vs.length) : (w.setCells g o1 vs).there g o n := fun j hj => by
  refine ⟨?_, by rw [World.frozen?_setCells]; exact (h j hj).2⟩
  by_cases hin : o1 ≤ o + j ∧ o + j < o1 + vs.length
  · have e := World.cell?_setCells_in g vs o1 w (fun i hi => (h1 i hi).1) (o + j - o1) (by omega)
    rw [show o + j = o1 + (o + j - o1) by omega, e]
    rfl
  · rw [World.cell?_setCells_out g vs o1 w ⟨g, o + j, none⟩ (fun _ _ => by show o + j < o1 ∨ o1 + vs.length ≤ o + j; omega)]
    exact (h j hj).1
section
variable {W0 w : World} {g : Nat} {d0 : Array Req} {X : List Req} {p q : Nat} {x y : Req}
theorem Row.drew (h : Row W0 g X w) : Row W0 g X w.drew := SWK.drewN h 1
/-- What the exchange of two leaves. -/
theorem row_swap (hblk : g < W0.heap.size) (h : Row W0 g X w) (hx : X[p]? = some x) (hy : X[q]? = some y) : SWK encR 9 W0 g 0 (swp (List.toArray X) p q) ((w.drew.setCells g (p * 9) y.cells.toList).setCells g (q * 9) x.cells.toList) := by
  have hp := (List.getElem?_eq_some_iff.1 hx).1
  have hq := (List.getElem?_eq_some_iff.1 hy).1
  have := SWK.swap h.drew (fun _ => rfl) hblk p q (by simpa using hp) (by simpa using hq)
  have e1 : (List.toArray X)[p]! = x := by rw [getElem!_pos _ _ (by simpa using hp)]; simpa using (List.getElem?_eq_some_iff.1 hx).2
  have e2 : (List.toArray X)[q]! = y := by rw [getElem!_pos _ _ (by simpa using hq)]; simpa using (List.getElem?_eq_some_iff.1 hy).2
  rw [e1, e2, Nat.zero_add, Nat.zero_add] at this
  exact this
/-- What an exchange asks for. -/
theorem row_facts (hH : HoldsK encR 9 W0 g 0 d0) (hblk : g < W0.heap.size) (h : Row W0 g X w) (hd : X.length = d0.size) (hx : X[p]? = some x) (hy : X[q]? = some y) :
    w.drew.rangeAt g (q * 9) y.cells.toList ∧ w.drew.rangeAt g (p * 9) x.cells.toList ∧ w.drew.there g (p * 9) 9 ∧ (w.drew.setCells g (p * 9) y.cells.toList).there g (q * 9) 9 := by
  have hh := Row.at hH hblk h.drew hd
  have hp := (List.getElem?_eq_some_iff.1 hx).1
  have hq := (List.getElem?_eq_some_iff.1 hy).1
  have t1 := holds_there hh hp
  exact ⟨holds_row hh hy, holds_row hh hx, t1, there_set (holds_there hh hq) t1⟩
end
theorem mid_wrap (x : Nat) (h : x ≤ 1000000) : IntKind.i64.wrap (x : Int) = (x : Int) := IntWalk.i64_in _ (by omega)
set_option maxHeartbeats 4000000 in
set_option maxRecDepth 100000 in
theorem swapRange_any (W0 : World) (g cap n : Nat) (d0 : Array Req) (hH : HoldsK encR 9 W0 g 0 d0) (hblk : g < W0.heap.size) (hsz : n ≤ 1000000) (P X Y Z S : List Req) (m a b : Nat) (hX : X.length = m) (hZ : Z.length = m) (ha : P.length = a) (hb : a + m + Y.length = b) (w : World) (hR : Row W0 g (P ++ (X ++ (Y ++ (Z ++ S)))) w) (hd : (P ++ (X ++ (Y ++ (Z ++ S)))).length = d0.size) (hn : d0.size = n) :
    Calls Tryz.prog 88 #[.slice (some ⟨g, 0, none⟩) n cap, .int .i64 a, .int .i64 b, .int .i64 m, .func (.func 22) #[] #[]] w fun e w' => e = .returned (.tuple #[]) ∧ Row W0 g (P ++ (Z ++ (Y ++ (X ++ S)))) w' := by
  have hl : P.length + m + Y.length + m + S.length = n := by simp only [List.length_append] at hd; omega
  have HX := Lib.hid hX
  have HZ := Lib.hid hZ
  clear hX hZ hd
  go_enter Tryz.func88, Tryz.ntmps88
  go_wp2_with fail
  go_loopw [10] (fun i wr => ∃ k : Nat, k ≤ m ∧ i = .int .i64 k ∧ Row W0 g (midX P X Y Z S k) wr) (fun i _ => m - (RowKit.intOf i).toNat)
  case atStart => exact ⟨0, Nat.zero_le _, rfl, by rw [midX_zero]; exact hR⟩
  case round =>
    clear hR
    obtain ⟨k, hk, rfl, hR⟩ := hrel
    by_cases hlt : k < m
    · have hml : (midX P X Y Z S k).length = n := by rw [midX_len HX.out HZ.out (by omega)]; omega
      obtain ⟨x, hx⟩ : ∃ x, (midX P X Y Z S k)[a + k]? = some x := ⟨_, List.getElem?_eq_getElem (by omega)⟩
      obtain ⟨y, hy⟩ : ∃ y, (midX P X Y Z S k)[b + k]? = some y := ⟨_, List.getElem?_eq_getElem (by omega)⟩
      obtain ⟨f1, f2, f3, f4⟩ := row_facts hH hblk hR (by omega) hx hy
      have hsw := row_swap hblk hR hx hy
      have hst := midX_step (P := P) (X := X) (Y := Y) (Z := Z) (S := S) HX.out HZ.out hlt
      rw [ha, hb] at hst
      have hi : (k : Int) < (m : Int) := by omega
      go_wp2_with fail
      refine sx_swap g n cap a b k (a + k) (b + k) x y wr _ f1 f2 f3 f4 (by omega) (by omega) (by rw [IntWalk.i64_in _ (by omega)]; omega) (by rw [IntWalk.i64_in _ (by omega)]; omega) ?_
      intro u29 u35 u36 u37 wx hwx
      have hRn : Row W0 g (midX P X Y Z S (k + 1)) wx := by
        unfold Row
        rw [← hst, hwx]
        exact hsw
      clear f1 f2 f3 f4 hsw hst hwx hx hy
      go_wp2_with fail
      go_roundw
      case rel => exact ⟨k + 1, by omega, by go_num, hRn⟩
      case measure => simp [RowKit.intOf]; omega
    · obtain rfl : k = m := by omega
      have hF : Row W0 g (P ++ (Z ++ (Y ++ (X ++ S)))) wr := by rw [← midX_last HX.out HZ.out]; exact hR
      clear hR
      go_wp2_with fail
      exact ⟨rfl, _, results_none rfl _ _ _, rfl, hF⟩
/-- Between two exchanges of a rotation. -/
def RotSt (W0 : World) (g m i j : Nat) (F : List Req) (w : World) : Prop := ∃ P A B S : List Req, 0 < A.length ∧ 0 < B.length ∧ A.length = i ∧ B.length = j ∧ P.length + i = m ∧ P ++ (B ++ (A ++ S)) = F ∧ Row W0 g (P ++ (A ++ (B ++ S))) w
set_option maxHeartbeats 4000000 in
set_option maxRecDepth 100000 in
theorem rotate_any (W0 : World) (g cap n : Nat) (d0 : Array Req) (hH : HoldsK encR 9 W0 g 0 d0) (hblk : g < W0.heap.size) (hsz : n ≤ 1000000) (P A B S : List Req) (a m b : Nat) (hA : 0 < A.length) (hB : 0 < B.length) (ha : P.length = a) (hm : a + A.length = m) (hb : m + B.length = b) (w : World) (hR : Row W0 g (P ++ (A ++ (B ++ S))) w) (hd : (P ++ (A ++ (B ++ S))).length = d0.size) (hn : d0.size = n) :
    Calls Tryz.prog 76 #[.slice (some ⟨g, 0, none⟩) n cap, .int .i64 a, .int .i64 m, .int .i64 b, .func (.func 22) #[] #[]] w fun e w' => e = .returned (.tuple #[]) ∧ Row W0 g (P ++ (B ++ (A ++ S))) w' := by
  obtain ⟨F, hF⟩ : ∃ F, P ++ (B ++ (A ++ S)) = F := ⟨_, rfl⟩
  have hFl : F.length = n := by rw [← hF]; simp only [List.length_append] at hd ⊢; omega
  rw [hF]
  have hst : RotSt W0 g m A.length B.length F w := ⟨P, A, B, S, hA, hB, rfl, rfl, by omega, hF, hR⟩
  obtain ⟨i0, hi0⟩ : ∃ i, A.length = i := ⟨_, rfl⟩
  obtain ⟨j0, hj0⟩ : ∃ j, B.length = j := ⟨_, rfl⟩
  rw [hi0, hj0] at hst
  have w1 : IntKind.i64.wrap ((m : Int) - (a : Int)) = (i0 : Int) := by rw [IntWalk.i64_in _ (by simp only [List.length_append] at hd; omega)]; omega
  have w2 : IntKind.i64.wrap ((b : Int) - (m : Int)) = (j0 : Int) := by rw [IntWalk.i64_in _ (by simp only [List.length_append] at hd; omega)]; omega
  clear hR hF hA hB ha hm hb hi0 hj0 hd
  go_enter Tryz.func76, Tryz.ntmps76
  go_wp2_with fail
  clear w1 w2
  go_loopw [10, 11] (fun u v wr => ∃ i j : Nat, u = .int .i64 i ∧ v = .int .i64 j ∧ RotSt W0 g m i j F wr) (fun u v _ => (RowKit.intOf u).toNat + (RowKit.intOf v).toNat)
  case atStart => exact ⟨i0, j0, rfl, rfl, hst⟩
  case round =>
    clear hst
    obtain ⟨i, j, rfl, rfl, P, A, B, S, hA, hB, hi, hj, hm, hF, hR⟩ := hrel
    have hlen : P.length + i + j + S.length = n := by rw [← hF] at hFl; simp only [List.length_append] at hFl; omega
    have HF := Lib.hid hF
    have HI := Lib.hid hi
    have HJ := Lib.hid hj
    have HM := Lib.hid hm
    have v1 : IntKind.i64.wrap ((m : Int) - (i : Int)) = (P.length : Int) := by rw [IntWalk.i64_in _ (by omega)]; omega
    by_cases hij : i = j
    · subst hij
      have cs := swapRange_any W0 g cap n d0 hH hblk hsz P A [] B S i P.length m hi hj rfl (by simp; omega) wr (by simpa using hR) (by simp only [List.length_append, List.length_nil]; omega) hn
      simp only [List.nil_append] at cs
      have hne : ((i : Int) != (i : Int)) = false := by simp
      clear hF hi hj hm hA hB
      go_wp2_with fail
      refine cs.mono ?_
      rintro _ wx ⟨rfl, hx⟩
      rw [HF.out] at hx
      go_wp2_with fail
      exact ⟨rfl, _, results_none rfl _ _ _, rfl, hx⟩
    · have hne : ((i : Int) != (j : Int)) = true := by simpa using (by omega : ¬ (i : Int) = (j : Int))
      by_cases hgt : j < i
      · have hgt' : decide ((j : Int) < (i : Int)) = true := decide_eq_true (by omega)
        have hgt2 : decide (j < i) = true := decide_eq_true hgt
        obtain ⟨A1, A2, rfl, h1⟩ : ∃ A1 A2, A = A1 ++ A2 ∧ A1.length = j := ⟨A.take j, A.drop j, (List.take_append_drop j A).symm, by simp; omega⟩
        have h2 : A2.length = i - j := by simp at hi; omega
        have cs := swapRange_any W0 g cap n d0 hH hblk hsz P A1 A2 B S j P.length m h1 hj rfl (by omega) wr (by simpa using hR) (by simp only [List.length_append]; omega) hn
        obtain ⟨e, he⟩ : ∃ e, i - j = e := ⟨_, rfl⟩
        have v2 : IntKind.i64.wrap ((i : Int) - (j : Int)) = (e : Int) := by rw [IntWalk.i64_in _ (by omega)]; omega
        rw [he] at h2
        have hei : e < i := by omega
        have HN : Hid (∀ wx, Row W0 g (P ++ (B ++ (A2 ++ (A1 ++ S)))) wx → RotSt W0 g m e j F wx) := Lib.hid fun wx hx => ⟨P ++ B, A2, A1, S, by omega, by omega, h2, h1, by simp; omega, by rw [← HF.out]; simp, by simpa using hx⟩
        clear hF hi hj hm hA hB h1 h2 hR hij he hlen
        go_wp2_with fail
        refine cs.mono ?_
        rintro _ wx ⟨rfl, hx⟩
        have hxx := HN.out wx hx
        clear cs hx
        go_wp2_with fail
        go_roundw
        case rel => exact ⟨e, j, rfl, rfl, hxx⟩
        case measure => simp [RowKit.intOf]; omega
      · have hgt' : decide ((j : Int) < (i : Int)) = false := decide_eq_false (by omega)
        have hgt2 : decide (j < i) = false := decide_eq_false hgt
        obtain ⟨B1, B2, rfl, h2⟩ : ∃ B1 B2, B = B1 ++ B2 ∧ B2.length = i := ⟨B.take (j - i), B.drop (j - i), (List.take_append_drop (j - i) B).symm, by simp; omega⟩
        have h1 : B1.length = j - i := by simp at hj; omega
        obtain ⟨m2, hm2⟩ : ∃ m2, m + j = m2 := ⟨_, rfl⟩
        obtain ⟨m3, hm3⟩ : ∃ m3, m2 - i = m3 := ⟨_, rfl⟩
        obtain ⟨e, he⟩ : ∃ e, j - i = e := ⟨_, rfl⟩
        have hej : e < j := by omega
        have cs := swapRange_any W0 g cap n d0 hH hblk hsz P A B1 B2 S i P.length m3 hi h2 rfl (by omega) wr (by simpa using hR) (by simp only [List.length_append]; omega) hn
        have v2 : IntKind.i64.wrap ((j : Int) - (i : Int)) = (e : Int) := by rw [IntWalk.i64_in _ (by omega)]; omega
        have v3 : IntKind.i64.wrap ((m : Int) + (j : Int)) = (m2 : Int) := by rw [IntWalk.i64_in _ (by omega)]; omega
        have v4 : IntKind.i64.wrap ((m2 : Int) - (i : Int)) = (m3 : Int) := by rw [IntWalk.i64_in _ (by omega)]; omega
        rw [he] at h1
        have HN : Hid (∀ wx, Row W0 g (P ++ (B2 ++ (B1 ++ (A ++ S)))) wx → RotSt W0 g m i e F wx) := Lib.hid fun wx hx => ⟨P, B2, B1, A ++ S, by omega, by omega, h2, h1, by omega, by rw [← HF.out]; simp, by simpa using hx⟩
        clear hF hi hj hm hA hB h1 h2 hR hij he hlen hm2 hm3
        go_wp2_with fail
        refine cs.mono ?_
        rintro _ wx ⟨rfl, hx⟩
        have hxx := HN.out wx hx
        clear cs hx
        go_wp2_with fail
        go_roundw
        case rel => exact ⟨i, e, rfl, rfl, hxx⟩
        case measure => simp [RowKit.intOf]; omega
end Go.Proofs.YteopjiedjnaeiaaGreat
namespace Go.Proofs.YteopjiedjnaeiaaGreat
open Go Go.Proofs Go.RowKit Go.Maps Go.Sort Go.Lib

theorem swapD_split (A B : List Req) (a b : Req) : swapD (A ++ a :: b :: B) A.length = A ++ b :: a :: B := by
  have e1 : elR (A ++ a :: b :: B) A.length = a := by unfold elR; simp
  have e2 : elR (A ++ a :: b :: B) (A.length + 1) = b := by
    unfold elR
    rw [List.getElem?_append_right (by omega), show A.length + 1 - A.length = 1 by omega]
    rfl
  unfold swapD
  rw [e1, e2, List.set_append_right _ _ (by omega), show A.length + 1 - A.length = 1 by omega, List.set_append_right _ _ (by omega), Nat.sub_self]
  rfl
/-- Put into a list, from behind. -/
theorem insD_ins : ∀ (A : List Req) (x : Req) (B : List Req), ∃ A', insD (A ++ x :: B) A.length = A' ++ B ∧ A'.Perm (A ++ [x]) ∧ (A.Pairwise (fun a b => ¬ cmpB b a < 0) → A'.Pairwise fun a b => ¬ cmpB b a < 0) := by
  intro A
  refine snoc_ind (p := fun A => ∀ (x : Req) (B : List Req), ∃ A', insD (A ++ x :: B) A.length = A' ++ B ∧ A'.Perm (A ++ [x]) ∧ (A.Pairwise (fun a b => ¬ cmpB b a < 0) → A'.Pairwise fun a b => ¬ cmpB b a < 0)) ?_ ?_ A
  · intro x B
    exact ⟨[x], rfl, List.Perm.refl _, fun _ => List.pairwise_singleton _ _⟩
  · intro A y ih x B
    have hl : (A ++ [y]).length = A.length + 1 := by simp
    have hx : (A ++ [y]) ++ x :: B = A ++ y :: x :: B := by simp
    rw [hl, hx, insD]
    have e1 : elR (A ++ y :: x :: B) A.length = y := by unfold elR; simp
    have e2 : elR (A ++ y :: x :: B) (A.length + 1) = x := by
      unfold elR
      rw [List.getElem?_append_right (by omega), show A.length + 1 - A.length = 1 by omega]
      rfl
    rw [e1, e2, swapD_split]
    by_cases hb : befR x y = true
    · rw [if_pos hb]
      obtain ⟨A', h1, h2, h3⟩ := ih x (y :: B)
      refine ⟨A' ++ [y], by rw [h1]; simp, ?_, fun hs => ?_⟩
      · have := h2.append_right [y]
        refine this.trans ?_
        rw [List.append_assoc, List.append_assoc]
        exact List.Perm.append_left A (List.Perm.swap _ _ _)
      · rw [List.pairwise_append] at hs ⊢
        refine ⟨h3 hs.1, List.pairwise_singleton _ _, fun u hu z hz => ?_⟩
        rw [List.mem_singleton] at hz
        subst hz
        have hm := h2.mem_iff.1 hu
        rw [List.mem_append, List.mem_singleton] at hm
        rcases hm with hm | rfl
        · exact hs.2.2 u hm z List.mem_cons_self
        · have := (befR_iff u z).1 hb
          have h4 := cmpB_ok.swap u z
          omega
    · rw [if_neg hb]
      refine ⟨A ++ [y, x], by simp, by simp, fun hs => ?_⟩
      have hxy : ¬ cmpB x y < 0 := fun h => hb ((befR_iff x y).2 h)
      rw [List.pairwise_append] at hs ⊢
      refine ⟨hs.1, ?_, fun u hu z hz => ?_⟩
      · rw [List.pairwise_cons]
        exact ⟨fun z hz => by rw [List.mem_singleton] at hz; subst hz; exact hxy, List.pairwise_singleton _ _⟩
      · have h1 := hs.2.2 u hu y List.mem_cons_self
        simp only [List.mem_cons, List.not_mem_nil, or_false] at hz
        rcases hz with rfl | rfl
        · exact h1
        · have a1 := cmpB_ok.swap u y
          have a2 := cmpB_ok.swap y z
          have a3 := cmpB_ok.swap u z
          have a4 := cmpB_ok.le u y z
          omega
theorem ordP_step (l : List Req) : ∀ k, k ≤ l.length → (ordP l k).Perm l ∧ ((ordP l k).take k).Pairwise fun a b => ¬ cmpB b a < 0
  | 0, _ => ⟨List.Perm.refl _, by simp⟩
  | k + 1, hk => by
    obtain ⟨h1, h2⟩ := ordP_step l k (by omega)
    obtain ⟨X, hX⟩ : ∃ X, ordP l k = X := ⟨_, rfl⟩
    have hlen : X.length = l.length := by rw [← hX, ordP_len]
    rw [ordP_succ]
    rw [hX] at h1 h2 ⊢
    have hlt : k < X.length := by omega
    have e : X = X.take k ++ X[k] :: X.drop (k + 1) := by rw [List.getElem_cons_drop, List.take_append_drop]
    have htk : (X.take k).length = k := by rw [List.length_take]; omega
    obtain ⟨A', i1, i2, i3⟩ := insD_ins (X.take k) X[k] (X.drop (k + 1))
    rw [← e, htk] at i1
    have hl2 : A'.length = k + 1 := by rw [i2.length_eq, List.length_append, htk]; rfl
    rw [i1]
    refine ⟨?_, ?_⟩
    · refine List.Perm.trans (i2.append_right _) ?_
      rw [List.append_assoc, List.singleton_append, ← e]
      exact h1
    · rw [List.take_left' hl2]
      exact i3 h2
theorem ordP_ok (l : List Req) : (ordP l l.length).Perm l ∧ (ordP l l.length).Pairwise fun a b => cmpB b a < 0 → False := by
  obtain ⟨h1, h2⟩ := ordP_step l l.length (Nat.le_refl _)
  rw [List.take_of_length_le (by rw [ordP_len]; exact Nat.le_refl _)] at h2
  exact ⟨h1, h2⟩
theorem ordP_isOrd {l : List Req} (hn : l.Pairwise fun a b => numR a ≠ numR b) : IsOrd (ordP l l.length) l := isOrd_of (ordP_ok l).1 hn (ordP_ok l).2
end Go.Proofs.YteopjiedjnaeiaaGreat
