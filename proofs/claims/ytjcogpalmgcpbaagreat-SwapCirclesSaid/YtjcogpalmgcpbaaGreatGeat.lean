/- The reference of layer 28: Deal, a region that draws. -/
import Derived.Test.YtjcogpalmgcpbaaGreatGeas
import Derived.Test.YtjcogpalmgcpbaaGreatGeaa
/- The reference of layer 28: Order. -/
namespace Go.Proofs.YtjcogpalmgcpbaaGreat
open Go Go.Proofs Go.RowKit Go.Maps Go.Sort Go.Lib


set_option maxHeartbeats 4000000 in
set_option maxRecDepth 100000 in
theorem ord_r6a {s0 s1 s2 s4 s6 s7 s8 s9 s10 s11 s12 s13 s14 s15 s16 s17 s18 s19 s20 s21 s22 s23 s24 s25 s26 s27 s28 s29 s30 s31 s32 s33 s34 s35 s36 s37 s38 s39 s40 s41 s42 s43 s44 s45 s46 s47 s48 : Value} (W0 : World) (B g n c : Nat) (X : List Req) (W : World) (Q : Exit → Act → World → Prop) (_h : OrdSt W0 B g X W) (_hB : B ≤ W.heap.size) (_hn : X.length = n) (_h1 : n ≤ 1000000)
    (hQ : ∀ (u16 u17 u18 u19 u20 u21 u22 u23 u24 u25 u26 u27 u28 : Value) (wx : World), RowKit.Below W.heap.size W wx → Q .normal ⟨List.toArray (s0 :: s1 :: s2 :: .slice (some ⟨g, 0, none⟩) n c :: s4 :: .int .i64 0 :: s6 :: s7 :: s8 :: s9 :: s10 :: s11 :: s12 :: s13 :: s14 :: s15 :: u16 :: u17 :: u18 :: u19 :: u20 :: u21 :: u22 :: u23 :: u24 :: u25 :: u26 :: u27 :: u28 :: .bool false :: s30 :: s31 :: s32 :: s33 :: s34 :: s35 :: s36 :: s37 :: s38 :: s39 :: s40 :: s41 :: s42 :: s43 :: s44 :: s45 :: s46 :: s47 :: s48 :: []), []⟩ wx) :
    (regionOf Tryz.f29 6).wp Tryz.prog Q ⟨List.toArray (s0 :: s1 :: s2 :: .slice (some ⟨g, 0, none⟩) n c :: s4 :: .int .i64 0 :: s6 :: s7 :: s8 :: s9 :: s10 :: s11 :: s12 :: s13 :: s14 :: s15 :: s16 :: s17 :: s18 :: s19 :: s20 :: s21 :: s22 :: s23 :: s24 :: s25 :: s26 :: s27 :: s28 :: s29 :: s30 :: s31 :: s32 :: s33 :: s34 :: s35 :: s36 :: s37 :: s38 :: s39 :: s40 :: s41 :: s42 :: s43 :: s44 :: s45 :: s46 :: s47 :: s48 :: []), []⟩ W := by
  refine of_onlyN (K := Q .normal) ?_ (fun _ _ h => h)
  generalize Q .normal = K at hQ ⊢
  have HQ := Lib.hid hQ; clear hQ
  conv => arg 2; whnf
  have hS0 : RowKit.Below W.heap.size W W.drew := (Below.refl _ _).drew
  refine of_onlyN ?_ (fun _ _ h => h)
  refine wp_region_flow (S := fun w' => RowKit.Below W.heap.size W w') [(0, true), (1, true), (2, true), (3, true), (4, true), (5, true), (6, true), (7, true), (8, true), (9, true), (10, true), (11, true), (12, false), (13, true)] (by kernel_rfl) (by kernel_rfl) (by kernel_rfl) (by decide) (hS0) ?_
  have hS := hS0
  refine flow_take ⟨some 16, _, _, _, _, _⟩ ?_ rfl (by rfl) ?_ ?_
  rotate_left 1
  · intro w hSw; (try dsimp only at hSw); go_simp; (try with_reducible rfl)
  simp only [Act.put, List.setIfInBounds_toArray, List.set_cons_zero, List.set_cons_succ]
  refine flow_take ⟨some 17, _, _, _, _, _⟩ ?_ rfl (by rfl) ?_ ?_
  rotate_left 1
  · intro w hSw; (try dsimp only at hSw); go_simp; (try with_reducible rfl)
  simp only [Act.put, List.setIfInBounds_toArray, List.set_cons_zero, List.set_cons_succ]
  refine flow_take ⟨some 18, _, _, _, _, _⟩ ?_ rfl (by rfl) ?_ ?_
  rotate_left 1
  · intro w hSw; (try dsimp only at hSw); go_simp; (try with_reducible rfl)
  simp only [Act.put, List.setIfInBounds_toArray, List.set_cons_zero, List.set_cons_succ]
  refine flow_skip ⟨some 19, _, _, _, _, _⟩ rfl (by rfl) ?_
  simp only [Act.put, List.setIfInBounds_toArray, List.set_cons_zero, List.set_cons_succ]
  refine flow_skip ⟨some 20, _, _, _, _, _⟩ rfl (by rfl) ?_
  simp only [Act.put, List.setIfInBounds_toArray, List.set_cons_zero, List.set_cons_succ]
  refine flow_skip ⟨some 21, _, _, _, _, _⟩ rfl (by rfl) ?_
  simp only [Act.put, List.setIfInBounds_toArray, List.set_cons_zero, List.set_cons_succ]
  refine flow_skip ⟨some 22, _, _, _, _, _⟩ rfl (by rfl) ?_
  simp only [Act.put, List.setIfInBounds_toArray, List.set_cons_zero, List.set_cons_succ]
  refine flow_skip ⟨some 23, _, _, _, _, _⟩ rfl (by rfl) ?_
  simp only [Act.put, List.setIfInBounds_toArray, List.set_cons_zero, List.set_cons_succ]
  refine flow_skip ⟨some 24, _, _, _, _, _⟩ rfl (by rfl) ?_
  simp only [Act.put, List.setIfInBounds_toArray, List.set_cons_zero, List.set_cons_succ]
  refine flow_skip ⟨some 25, _, _, _, _, _⟩ rfl (by rfl) ?_
  simp only [Act.put, List.setIfInBounds_toArray, List.set_cons_zero, List.set_cons_succ]
  refine flow_skip ⟨some 26, _, _, _, _, _⟩ rfl (by rfl) ?_
  simp only [Act.put, List.setIfInBounds_toArray, List.set_cons_zero, List.set_cons_succ]
  refine flow_skip ⟨some 27, _, _, _, _, _⟩ rfl (by rfl) ?_
  simp only [Act.put, List.setIfInBounds_toArray, List.set_cons_zero, List.set_cons_succ]
  refine flow_skip' ⟨some 28, _, _, _, _, _⟩ rfl (by rfl) hS ?_
  simp only [Act.put, List.setIfInBounds_toArray, List.set_cons_zero, List.set_cons_succ]
  refine flow_take ⟨some 29, _, _, _, _, _⟩ ?_ rfl (by rfl) ?_ ?_
  rotate_left 1
  · intro w hSw; (try dsimp only at hSw); go_simp; (try with_reducible rfl)
  simp only [Act.put, List.setIfInBounds_toArray, List.set_cons_zero, List.set_cons_succ]
  simp only [wpFlow, OnlyN]
  exact HQ.out _ _ _ _ _ _ _ _ _ _ _ _ _ _ hS

set_option maxHeartbeats 4000000 in
set_option maxRecDepth 100000 in
theorem ord_r6b {s0 s1 s2 s4 s6 s7 s8 s9 s10 s11 s12 s13 s14 s15 s16 s17 s18 s19 s20 s21 s22 s23 s24 s25 s26 s27 s28 s29 s30 s31 s32 s33 s34 s35 s36 s37 s38 s39 s40 s41 s42 s43 s44 s45 s46 s47 s48 : Value} (W0 : World) (B g n c i : Nat) (X : List Req) (W : World) (Q : Exit → Act → World → Prop) (h : OrdSt W0 B g X W) (hB : B ≤ W.heap.size) (hn : X.length = n) (h1 : n ≤ 1000000) (hi : i + 1 < n)
    (hQ : ∀ (u16 u17 u18 u19 u20 u21 u22 u23 u24 u25 u26 u27 u28 : Value) (wx : World), RowKit.Below W.heap.size W wx → Q .normal ⟨List.toArray (s0 :: s1 :: s2 :: .slice (some ⟨g, 0, none⟩) n c :: s4 :: .int .i64 ((i : Int) + 1) :: s6 :: s7 :: s8 :: s9 :: s10 :: s11 :: s12 :: s13 :: s14 :: s15 :: u16 :: u17 :: u18 :: u19 :: u20 :: u21 :: u22 :: u23 :: u24 :: u25 :: u26 :: u27 :: u28 :: .bool (befR (elR X (i + 1)) (elR X i)) :: s30 :: s31 :: s32 :: s33 :: s34 :: s35 :: s36 :: s37 :: s38 :: s39 :: s40 :: s41 :: s42 :: s43 :: s44 :: s45 :: s46 :: s47 :: s48 :: []), []⟩ wx) :
    (regionOf Tryz.f29 6).wp Tryz.prog Q ⟨List.toArray (s0 :: s1 :: s2 :: .slice (some ⟨g, 0, none⟩) n c :: s4 :: .int .i64 ((i : Int) + 1) :: s6 :: s7 :: s8 :: s9 :: s10 :: s11 :: s12 :: s13 :: s14 :: s15 :: s16 :: s17 :: s18 :: s19 :: s20 :: s21 :: s22 :: s23 :: s24 :: s25 :: s26 :: s27 :: s28 :: s29 :: s30 :: s31 :: s32 :: s33 :: s34 :: s35 :: s36 :: s37 :: s38 :: s39 :: s40 :: s41 :: s42 :: s43 :: s44 :: s45 :: s46 :: s47 :: s48 :: []), []⟩ W := by
  refine of_onlyN (K := Q .normal) ?_ (fun _ _ h => h)
  generalize Q .normal = K at hQ ⊢
  have HQ := Lib.hid hQ; clear hQ
  conv => arg 2; whnf
  have hS0 : RowKit.Below W.heap.size W W.drew := (Below.refl _ _).drew
  have HO := Lib.hid h
  have HB := Lib.hid hB
  have hw1 : IntKind.i64.wrap (i : Int) = (i : Int) := IntWalk.i64_in _ (by omega)
  have hng : ¬ ((i : Int) + 1 < 0) := by omega
  have hlt1 : (i : Int) + 1 < (n : Int) := by omega
  have hlt0 : (i : Int) < (n : Int) := by omega
  have hgt : decide ((i : Int) + 1 > 0) = true := decide_eq_true (by omega)
  have hge : 0 ≤ (i : Int) + 1 := by omega
  clear h hB
  refine of_onlyN ?_ (fun _ _ h => h)
  refine wp_region_flow (S := fun w' => RowKit.Below W.heap.size W w') [(0, true), (1, true), (2, true), (3, true), (4, true), (5, true), (6, true), (7, true), (8, true), (9, true), (10, true), (11, true), (12, false), (13, true)] (by kernel_rfl) (by kernel_rfl) (by kernel_rfl) (by decide) (hS0) ?_
  have hS := hS0
  refine flow_take ⟨some 16, _, _, _, _, _⟩ ?_ rfl (by rfl) ?_ ?_
  rotate_left 1
  · intro w hSw; (try dsimp only at hSw); go_simp; (try with_reducible rfl)
  simp only [Act.put, List.setIfInBounds_toArray, List.set_cons_zero, List.set_cons_succ]
  refine flow_take ⟨some 17, _, _, _, _, _⟩ ?_ rfl (by rfl) ?_ ?_
  rotate_left 1
  · intro w hSw; (try dsimp only at hSw); go_simp; (try with_reducible rfl)
  simp only [Act.put, List.setIfInBounds_toArray, List.set_cons_zero, List.set_cons_succ]
  refine flow_take ⟨some 18, _, _, _, _, _⟩ ?_ rfl (by rfl) ?_ ?_
  rotate_left 1
  · intro w hSw; (try dsimp only at hSw); go_simp; (try with_reducible rfl)
  simp only [Act.put, List.setIfInBounds_toArray, List.set_cons_zero, List.set_cons_succ]
  refine flow_take ⟨some 19, _, _, _, _, _⟩ ?_ rfl (by rfl) ?_ ?_
  rotate_left 1
  · intro w hSw; (try dsimp only at hSw); go_simp; (try with_reducible rfl)
  simp only [Act.put, List.setIfInBounds_toArray, List.set_cons_zero, List.set_cons_succ]
  refine flow_take ⟨some 20, _, _, _, _, _⟩ ?_ rfl (by rfl) ?_ ?_
  rotate_left 1
  · intro w hSw; (try dsimp only at hSw); go_simp; (try with_reducible rfl)
  simp only [Act.put, List.setIfInBounds_toArray, List.set_cons_zero, List.set_cons_succ]
  refine flow_take ⟨some 21, _, _, _, _, _⟩ ?_ rfl (by rfl) ?_ ?_
  rotate_left 1
  · intro w hSw; (try dsimp only at hSw); go_simp; (try with_reducible rfl)
  simp only [Act.put, List.setIfInBounds_toArray, List.set_cons_zero, List.set_cons_succ]
  refine flow_take ⟨some 22, _, _, _, _, _⟩ (elR X (i + 1)).val rfl (by rfl) (fun w hS => run_load_req _ (.tmp 21) (by rfl) w g _ _ (((HO.out.next hS HB.out).row (i + 1) _ (elR_get (by omega)))) (by rfl)) ?_
  (try simp only [Act.put, List.setIfInBounds_toArray, List.set_cons_zero, List.set_cons_succ])
  refine flow_take ⟨some 23, _, _, _, _, _⟩ ?_ rfl (by rfl) ?_ ?_
  rotate_left 1
  · intro w hSw; (try dsimp only at hSw); go_simp; (try with_reducible rfl)
  simp only [Act.put, List.setIfInBounds_toArray, List.set_cons_zero, List.set_cons_succ]
  refine flow_take ⟨some 24, _, _, _, _, _⟩ ?_ rfl (by rfl) ?_ ?_
  rotate_left 1
  · intro w hSw; (try dsimp only at hSw); go_simp; (try with_reducible rfl)
  simp only [Act.put, List.setIfInBounds_toArray, List.set_cons_zero, List.set_cons_succ]
  refine flow_take ⟨some 25, _, _, _, _, _⟩ ?_ rfl (by rfl) ?_ ?_
  rotate_left 1
  · intro w hSw; (try dsimp only at hSw); go_simp; (try with_reducible rfl)
  simp only [Act.put, List.setIfInBounds_toArray, List.set_cons_zero, List.set_cons_succ]
  refine flow_take ⟨some 26, _, _, _, _, _⟩ ?_ rfl (by rfl) ?_ ?_
  rotate_left 1
  · intro w hSw; (try dsimp only at hSw); go_simp; (try with_reducible rfl)
  simp only [Act.put, List.setIfInBounds_toArray, List.set_cons_zero, List.set_cons_succ]
  refine flow_take ⟨some 27, _, _, _, _, _⟩ (elR X i).val rfl (by rfl) (fun w hS => run_load_req _ (.tmp 26) (by rfl) w g _ _ (((HO.out.next hS HB.out).row (i) _ (elR_get (by omega)))) (by rfl)) ?_
  (try simp only [Act.put, List.setIfInBounds_toArray, List.set_cons_zero, List.set_cons_succ])
  refine flow_call ⟨some 28, _, _, _, _, _⟩ rfl (by rfl) 47 _ _ (by rfl) _ (by rfl) Tryz.call47 (before_any (elR X (i + 1)) (elR X i) _) ?_; rintro x wn ⟨rfl, hb⟩; replace hS := below_next hS hb; refine ⟨_, rfl, hS, ?_⟩; (try clear hb)
  simp only [Act.put, List.setIfInBounds_toArray, List.set_cons_zero, List.set_cons_succ]
  refine flow_take ⟨some 29, _, _, _, _, _⟩ ?_ rfl (by rfl) ?_ ?_
  rotate_left 1
  · intro w hSw; (try dsimp only at hSw); go_simp; (try with_reducible rfl)
  simp only [Act.put, List.setIfInBounds_toArray, List.set_cons_zero, List.set_cons_succ]
  simp only [wpFlow, OnlyN]
  exact HQ.out _ _ _ _ _ _ _ _ _ _ _ _ _ _ hS

theorem ord_own {w : World} {base : Nat} {t : TypeId} {v : Value} {l : List Req} (h : w.ownsRow base t 9 v ([] ++ l).length (reqCells ([] ++ l))) : ∃ p c, v = .slice p l.length c ∧ w.ownsRow base t 9 (.slice p l.length c) l.length (reqCells l) ∧ (0 < l.length → ∃ g, p = some ⟨g, 0, none⟩ ∧ l.length ≤ c) := by
  rw [List.nil_append] at h
  rcases h.2 with ⟨rfl, h0⟩ | ⟨g, cap, cur, rfl, h1, hg, h2, _⟩
  · rw [h0] at h ⊢
    exact ⟨none, 0, rfl, h, fun hp => by omega⟩
  · exact ⟨_, _, rfl, h, fun _ => ⟨g, rfl, h2⟩⟩
set_option maxHeartbeats 8000000 in
set_option maxRecDepth 100000 in
theorem refOrder_any (v : Value) (l : List Req) (w : World) (hv : ReqsIn w v l) (hl : l.length ≤ 900) :
    Calls Tryz.prog 29 #[v] w fun e w' => ∃ v', e = .returned v' ∧ ReqsIn w' v' (ordP l l.length) ∧ RowKit.Below w.heap.size w w' := by
  have hbA := below_alloc1 w (.cells #[] 41)
  have hown : (w.alloc (.cells #[] 41)).ownsRow w.heap.size 41 9 (.slice (some ⟨w.heap.size, 0, none⟩) 0 0) 0 (reqCells []) := World.ownsRow_made w #[] 0 (Nat.le_refl _) (Nat.zero_le _) rfl
  have HRA := Lib.hid (hv.below hbA)
  have HLL : Hid (([] : List Req).length + l.length ≤ 1000000) := Lib.hid (by simp; omega)
  have HSZ : Hid (w.heap.size ≤ (w.alloc (.cells #[] 41)).heap.size) := Lib.hid (by simp)
  clear hv
  go_enter Tryz.func29, Tryz.ntmps29
  go_upto_region 2 with (at_builtin; refine wpList_append_reqs rfl (.tmp 6) (.tmp 7) rfl w.heap.size _ _ [] l rfl rfl hown HRA.out HLL.out HSZ.out ?_; intro vp w1 hown2 hgr2; replace hgr2 : (w.alloc (.cells #[] 41)).grownBy w1 (some w.heap.size) := hgr2; obtain ⟨p, c, rfl, hown3, hpg⟩ := ord_own hown2)
  have hb1 : RowKit.Below w.heap.size w w1 := hbA.grown hgr2 hbA.size (fun q hq => by obtain rfl := Option.some.inj hq; exact Nat.le_refl _)
  clear hown2 hown hgr2 hbA HRA HLL HSZ
  obtain ⟨n, hn⟩ : ∃ n, l.length = n := ⟨_, rfl⟩
  have HN := Lib.hid hn
  rcases Nat.eq_zero_or_pos l.length with h0 | h0
  · have hr := reqsIn_own hown3
    rw [h0] at hr hown3 ⊢
    have HR := Lib.hid hr
    clear hr hown3 hpg
    go_wp2_with fail
    refine wp_loop_rounds 1 ?_
    rw [rounds_succ]
    go_wp2_with fail
    go_ret
    exact ⟨_, rfl, by rw [h0]; exact HR.out, hb1⟩
  · obtain ⟨g, rfl, hc⟩ := hpg h0
    have hst := OrdSt.own hb1 hown3
    rw [hn] at hl h0 hc hown3 ⊢
    have HST := Lib.hid hst
    have HS1 := Lib.hid hb1.size
    clear hst hpg hown3 hn
    go_wp2_with fail
    go_loopw [4] (fun vk wr => ∃ k : Nat, k ≤ n ∧ vk = .int .i64 k ∧ Hid (OrdSt w w.heap.size g (ordP l k) wr) ∧ w.heap.size ≤ wr.heap.size) (fun vk _ => n - (RowKit.intOf vk).toNat)
    case atStart => exact ⟨0, Nat.zero_le _, rfl, HST, HS1.out⟩
    case round =>
      clear HST
      obtain ⟨k, hk, rfl, HT, hsz⟩ := hrel
      by_cases hlt : k < n
      · go_wp2_with fail
        generalize wr = W2 at HT hsz ⊢
        go_loopw [5] (fun vi wr => ∃ (i : Nat) (X : List Req), i ≤ k ∧ vi = .int .i64 i ∧ Hid (insD X i = ordP l (k + 1)) ∧ X.length = n ∧ Hid (OrdSt w w.heap.size g X wr) ∧ w.heap.size ≤ wr.heap.size) (fun vi _ => (RowKit.intOf vi).toNat)
        case atStart => exact ⟨k, ordP l k, Nat.le_refl _, rfl, Lib.hid (ordP_succ l k).symm, by rw [ordP_len]; exact HN.out, HT, hsz⟩
        case round =>
          obtain ⟨i, X, hik, rfl, HI, hX, HO, hsz2⟩ := hrel
          cases i with
          | zero =>
            go_upto_region 6 with fail
            refine ord_r6a w w.heap.size g n c X wr _ HO.out hsz2 hX (by omega) ?_
            intros
            rename_i wx hwx
            have hO2 := Lib.hid (HO.out.next hwx hsz2)
            have hI2 : Hid (X = ordP l (k + 1)) := Lib.hid HI.out
            have hs3 := Nat.le_trans hsz2 hwx.size
            go_wp2_with fail
            go_roundw
            case rel => exact ⟨k + 1, by omega, by go_num, by rw [← hI2.out]; exact hO2, hs3⟩
            case measure => simp [RowKit.intOf]; omega
          | succ i =>
            have ec : ((i + 1 : Nat) : Int) = (i : Int) + 1 := by omega
            rw [ec]
            clear ec
            go_upto_region 6 with fail
            refine ord_r6b w w.heap.size g n c i X wr _ HO.out hsz2 hX (by omega) (by omega) ?_
            intros
            rename_i wx hwx
            have hO2 := Lib.hid (HO.out.next hwx hsz2)
            have hs3 := Nat.le_trans hsz2 hwx.size
            generalize hbf : befR (elR X (i + 1)) (elR X i) = G
            have HBF := Lib.hid hbf
            clear hbf
            cases G
            · have hI2 : Hid (X = ordP l (k + 1)) := Lib.hid (by
                have := HI.out
                unfold insD at this
                rwa [HBF.out, if_neg (by simp)] at this)
              go_wp2_with fail
              go_roundw
              case rel => exact ⟨k + 1, by omega, by go_num, by rw [← hI2.out]; exact hO2, hs3⟩
              case measure => simp [RowKit.intOf]; omega
            · have hI2 : Hid (insD (swapD X i) i = ordP l (k + 1)) := Lib.hid (by
                have := HI.out
                rw [insD, HBF.out, if_pos rfl] at this
                exact this)
              go_upto_region 8 with fail
              refine ord_r8 w w.heap.size g n c i X wx _ hO2.out hs3 hX (by omega) (by omega) hc ?_
              intros
              rename_i wy hwy
              have HY := Lib.hid hwy
              have hs4 := hwy.below.size
              clear hwy
              go_wp2_with fail
              go_roundw
              case rel => exact ⟨i, swapD X i, by omega, by go_num, hI2, by rw [swapD_len]; exact hX, HY, hs4⟩
              case measure => simp [RowKit.intOf]
      · obtain rfl : k = n := by omega
        have hr := HT.out.reqs (c := c) (by rw [ordP_len, HN.out]; exact hc)
        rw [ordP_len, HN.out] at hr
        have HR := Lib.hid hr
        have HB := Lib.hid HT.out.below
        clear hr
        go_wp2_with fail
        go_ret
        exact ⟨_, rfl, by rw [HN.out]; exact HR.out, HB.out⟩

end Go.Proofs.YtjcogpalmgcpbaaGreat
/- The reference's Order, in plain words: a permutation, in order. -/
namespace Go.Proofs.YtjcogpalmgcpbaaGreat
open Go Go.Proofs Go.RowKit Go.Maps Go.Sort Go.Lib

theorem swapD_split (A B : List Req) (a b : Req) : swapD (A ++ a :: b :: B) A.length = A ++ b :: a :: B := by
  have e1 : elR (A ++ a :: b :: B) A.length = a := by unfold elR; simp
  have e2 : elR (A ++ a :: b :: B) (A.length + 1) = b := by
    unfold elR
    rw [List.getElem?_append_right (by omega), show A.length + 1 - A.length = 1 by omega]
    rfl
  unfold swapD
  rw [e1, e2, List.set_append_right _ _ (by omega), show A.length + 1 - A.length = 1 by omega, List.set_append_right _ _ (by omega), Nat.sub_self]
  rfl
/-- Put into a list, from behind. -/
theorem insD_ins : ∀ (A : List Req) (x : Req) (B : List Req), ∃ A', insD (A ++ x :: B) A.length = A' ++ B ∧ A'.Perm (A ++ [x]) ∧ (A.Pairwise (fun a b => ¬ cmpB b a < 0) → A'.Pairwise fun a b => ¬ cmpB b a < 0) := by
  intro A
  refine snoc_ind (p := fun A => ∀ (x : Req) (B : List Req), ∃ A', insD (A ++ x :: B) A.length = A' ++ B ∧ A'.Perm (A ++ [x]) ∧ (A.Pairwise (fun a b => ¬ cmpB b a < 0) → A'.Pairwise fun a b => ¬ cmpB b a < 0)) ?_ ?_ A
  · intro x B
    exact ⟨[x], rfl, List.Perm.refl _, fun _ => List.pairwise_singleton _ _⟩
  · intro A y ih x B
    have hl : (A ++ [y]).length = A.length + 1 := by simp
    have hx : (A ++ [y]) ++ x :: B = A ++ y :: x :: B := by simp
    rw [hl, hx, insD]
    have e1 : elR (A ++ y :: x :: B) A.length = y := by unfold elR; simp
    have e2 : elR (A ++ y :: x :: B) (A.length + 1) = x := by
      unfold elR
      rw [List.getElem?_append_right (by omega), show A.length + 1 - A.length = 1 by omega]
      rfl
    rw [e1, e2, swapD_split]
    by_cases hb : befR x y = true
    · rw [if_pos hb]
      obtain ⟨A', h1, h2, h3⟩ := ih x (y :: B)
      refine ⟨A' ++ [y], by rw [h1]; simp, ?_, fun hs => ?_⟩
      · have := h2.append_right [y]
        refine this.trans ?_
        rw [List.append_assoc, List.append_assoc]
        exact List.Perm.append_left A (List.Perm.swap _ _ _)
      · rw [List.pairwise_append] at hs ⊢
        refine ⟨h3 hs.1, List.pairwise_singleton _ _, fun u hu z hz => ?_⟩
        rw [List.mem_singleton] at hz
        subst hz
        have hm := h2.mem_iff.1 hu
        rw [List.mem_append, List.mem_singleton] at hm
        rcases hm with hm | rfl
        · exact hs.2.2 u hm z List.mem_cons_self
        · have := (befR_iff u z).1 hb
          have h4 := cmpB_ok.swap u z
          omega
    · rw [if_neg hb]
      refine ⟨A ++ [y, x], by simp, by simp, fun hs => ?_⟩
      have hxy : ¬ cmpB x y < 0 := fun h => hb ((befR_iff x y).2 h)
      rw [List.pairwise_append] at hs ⊢
      refine ⟨hs.1, ?_, fun u hu z hz => ?_⟩
      · rw [List.pairwise_cons]
        exact ⟨fun z hz => by rw [List.mem_singleton] at hz; subst hz; exact hxy, List.pairwise_singleton _ _⟩
      · have h1 := hs.2.2 u hu y List.mem_cons_self
        simp only [List.mem_cons, List.not_mem_nil, or_false] at hz
        rcases hz with rfl | rfl
        · exact h1
        · have a1 := cmpB_ok.swap u y
          have a2 := cmpB_ok.swap y z
          have a3 := cmpB_ok.swap u z
          have a4 := cmpB_ok.le u y z
          omega
theorem ordP_step (l : List Req) : ∀ k, k ≤ l.length → (ordP l k).Perm l ∧ ((ordP l k).take k).Pairwise fun a b => ¬ cmpB b a < 0
  | 0, _ => ⟨List.Perm.refl _, by simp⟩
  | k + 1, hk => by
    obtain ⟨h1, h2⟩ := ordP_step l k (by omega)
    obtain ⟨X, hX⟩ : ∃ X, ordP l k = X := ⟨_, rfl⟩
    have hlen : X.length = l.length := by rw [← hX, ordP_len]
    rw [ordP_succ]
    rw [hX] at h1 h2 ⊢
    have hlt : k < X.length := by omega
    have e : X = X.take k ++ X[k] :: X.drop (k + 1) := by rw [List.getElem_cons_drop, List.take_append_drop]
    have htk : (X.take k).length = k := by rw [List.length_take]; omega
    obtain ⟨A', i1, i2, i3⟩ := insD_ins (X.take k) X[k] (X.drop (k + 1))
    rw [← e, htk] at i1
    have hl2 : A'.length = k + 1 := by rw [i2.length_eq, List.length_append, htk]; rfl
    rw [i1]
    refine ⟨?_, ?_⟩
    · refine List.Perm.trans (i2.append_right _) ?_
      rw [List.append_assoc, List.singleton_append, ← e]
      exact h1
    · rw [List.take_left' hl2]
      exact i3 h2
theorem ordP_ok (l : List Req) : (ordP l l.length).Perm l ∧ (ordP l l.length).Pairwise fun a b => cmpB b a < 0 → False := by
  obtain ⟨h1, h2⟩ := ordP_step l l.length (Nat.le_refl _)
  rw [List.take_of_length_le (by rw [ordP_len]; exact Nat.le_refl _)] at h2
  exact ⟨h1, h2⟩
theorem ordP_isOrd {l : List Req} (hn : l.Pairwise fun a b => numR a ≠ numR b) : IsOrd (ordP l l.length) l := isOrd_of (ordP_ok l).1 hn (ordP_ok l).2
end Go.Proofs.YtjcogpalmgcpbaaGreat
namespace Go.Proofs.YtjcogpalmgcpbaaGreat
open Go Go.Proofs Go.RowKit Go.Maps Go.Sort Go.Lib

theorem par_put {P : Program} {ops : Array Oper} {Q : Exit → Act → World → Prop} {i : Nat} {K : Act → World → Prop} {a : Act} {w : World} (oi : Oper) (w' : World) (hi : ops[i]? = some oi) (hw : Region.wanted oi (yielded ops a.tmps) = true) (hr : (execOp a.eval oi).run P w = .ok .skip w') (h : K (a.put oi.dst undef) w') : wpOp P ops Q i K a w :=
  par_op oi hi hw (by unfold Oper.wp; rw [hr, Oper.upon_skip]; exact h)

theorem sb_at {W w : World} {bs bd : Nat} {u v : Value} {t : TypeId} (h : W.heap[bs]? = some (.cells #[u, v] t (0, 0))) (hne : bs ≠ bd) (hS : W.grownBy w (some bd)) : w.rangeAt bs 0 [u, v] := fun j x hj => by
  rw [Nat.zero_add, Lib.cell_of_heap ((hS.block bs (lt_of_heap h) (fun e => hne (Option.some.inj e))).trans h)]
  simpa using hj
set_option maxHeartbeats 16000000 in
set_option maxRecDepth 100000 in
theorem dl_r15 {s0 s1 s2 s3 s4 s5 s6 s7 s8 s10 s11 s12 s15 s16 s17 s18 s19 s20 s21 s22 s23 s24 s25 s26 s27 s28 s29 s30 s31 s32 s33 s34 s35 s36 s37 s38 s39 s40 s41 s42 s43 s44 s45 s46 s47 s48 s49 s50 s51 s52 s53 s54 s55 s56 s57 s58 s59 s60 s61 s62 s63 s64 s65 s66 s67 s68 s69 s70 s71 s72 s73 s74 s75 s76 s77 s78 s79 s80 s81 : Value} (bd bs : Nat) (po : Option Addr) (co : Nat) (sv wv : Value) (X : List Seat) (s : Seat) (W : World) (Q : Exit → Act → World → Prop) (hx : W.heap[bd]? = some (.cells #[sv, wv] 31 (0, 0))) (hs : W.heap[bs]? = some (.cells #[.int .i64 s.student, .string s.code] 38 (0, 0))) (hne : bs ≠ bd) (hr : RowIn Seat.cells W (.slice po X.length co) X) (lX : X.length ≤ 100000)
    (hQ : ∀ (u63 u65 u67 u68 u69 : Value) (p : Option Addr) (c : Nat) (wx : World), W.grownBy wx (some bd) → wx.heap[bd]? = some (.cells #[.slice p (X ++ [s]).length c, wv] 31 (0, 0)) → wx.ownsRow W.heap.size 38 2 (.slice p (X ++ [s]).length c) (X ++ [s]).length (flatE Seat.cells (X ++ [s])) → Q .normal ⟨List.toArray (s0 :: s1 :: s2 :: s3 :: s4 :: s5 :: s6 :: s7 :: s8 :: .pointer (some ⟨bd, 0, none⟩) :: s10 :: s11 :: s12 :: .pointer (some ⟨bs, 0, none⟩) :: .slice po X.length co :: s15 :: s16 :: s17 :: s18 :: s19 :: s20 :: s21 :: s22 :: s23 :: s24 :: s25 :: s26 :: s27 :: s28 :: s29 :: s30 :: s31 :: s32 :: s33 :: s34 :: s35 :: s36 :: s37 :: s38 :: s39 :: s40 :: s41 :: s42 :: s43 :: s44 :: s45 :: s46 :: s47 :: s48 :: s49 :: s50 :: s51 :: s52 :: s53 :: s54 :: s55 :: s56 :: s57 :: s58 :: s59 :: s60 :: s61 :: s62 :: u63 :: .slice po X.length co :: u65 :: .agg #[.int .i64 s.student, .string s.code] :: u67 :: u68 :: u69 :: s70 :: s71 :: s72 :: s73 :: s74 :: s75 :: s76 :: s77 :: s78 :: s79 :: s80 :: s81 :: []), []⟩ wx) :
    (regionOf Tryz.f18 15).wp Tryz.prog Q ⟨List.toArray (s0 :: s1 :: s2 :: s3 :: s4 :: s5 :: s6 :: s7 :: s8 :: .pointer (some ⟨bd, 0, none⟩) :: s10 :: s11 :: s12 :: .pointer (some ⟨bs, 0, none⟩) :: .slice po X.length co :: s15 :: s16 :: s17 :: s18 :: s19 :: s20 :: s21 :: s22 :: s23 :: s24 :: s25 :: s26 :: s27 :: s28 :: s29 :: s30 :: s31 :: s32 :: s33 :: s34 :: s35 :: s36 :: s37 :: s38 :: s39 :: s40 :: s41 :: s42 :: s43 :: s44 :: s45 :: s46 :: s47 :: s48 :: s49 :: s50 :: s51 :: s52 :: s53 :: s54 :: s55 :: s56 :: s57 :: s58 :: s59 :: s60 :: s61 :: s62 :: s63 :: s64 :: s65 :: s66 :: s67 :: s68 :: s69 :: s70 :: s71 :: s72 :: s73 :: s74 :: s75 :: s76 :: s77 :: s78 :: s79 :: s80 :: s81 :: []), []⟩ W := by
  refine of_onlyN (K := Q .normal) ?_ (fun _ _ h => h)
  generalize Q .normal = K at hQ ⊢
  have HQ := Lib.hid hQ; clear hQ
  conv => arg 2; whnf
  have hS0 : W.grownBy W.drew (some bd) := below_grows (Below.refl _ W).drew
  have HR := Lib.hid hr
  clear hr
  refine wp_region_par (S := fun w => W.grownBy w (some bd)) (I := fun L' a w => ∃ u63 u65 u67 u68 u69 : Value, a = ⟨List.toArray (s0 :: s1 :: s2 :: s3 :: s4 :: s5 :: s6 :: s7 :: s8 :: .pointer (some ⟨bd, 0, none⟩) :: s10 :: s11 :: s12 :: .pointer (some ⟨bs, 0, none⟩) :: .slice po X.length co :: s15 :: s16 :: s17 :: s18 :: s19 :: s20 :: s21 :: s22 :: s23 :: s24 :: s25 :: s26 :: s27 :: s28 :: s29 :: s30 :: s31 :: s32 :: s33 :: s34 :: s35 :: s36 :: s37 :: s38 :: s39 :: s40 :: s41 :: s42 :: s43 :: s44 :: s45 :: s46 :: s47 :: s48 :: s49 :: s50 :: s51 :: s52 :: s53 :: s54 :: s55 :: s56 :: s57 :: s58 :: s59 :: s60 :: s61 :: s62 :: u63 :: .slice po X.length co :: u65 :: .agg #[.int .i64 s.student, .string s.code] :: u67 :: u68 :: u69 :: s70 :: s71 :: s72 :: s73 :: s74 :: s75 :: s76 :: s77 :: s78 :: s79 :: s80 :: s81 :: []), []⟩ ∧ (W.grownBy w (some bd)) ∧ (L'.getD 0 false = true → L'.getD 2 false = false → Laid W.heap.size w (fun b => .slice (some ⟨b, 0, none⟩) 0 0) (.cells #[] 38 (0, 0)) u63) ∧ (L'.getD 2 false = true → L'.getD 5 false = false → w.ownsRow W.heap.size 38 2 u65 X.length (flatE Seat.cells X)) ∧ (L'.getD 4 false = true → L'.getD 5 false = false → Laid W.heap.size w (fun b => .slice (some ⟨b, 0, none⟩) 1 1) (.cells #[.int .i64 s.student, .string s.code] 38 (0, 0)) u67) ∧ (L'.getD 5 false = true → L'.getD 7 false = false → w.ownsRow W.heap.size 38 2 u68 (X ++ [s]).length (flatE Seat.cells (X ++ [s]))) ∧ (L'.getD 6 false = true → u69 = .pointer (some ⟨bd, 0, none⟩)) ∧ (L'.getD 7 false = true → ∃ p c, w.heap[bd]? = some (.cells #[.slice p (X ++ [s]).length c, wv] 31 (0, 0)) ∧ w.ownsRow W.heap.size 38 2 (.slice p (X ++ [s]).length c) (X ++ [s]).length (flatE Seat.cells (X ++ [s]))) ∧ (L'.getD 7 false = false → RowKit.Below W.heap.size W w)) (pre := fun i L' => L'.size == 8 && ((i == 0 && !L'.getD 0 false && !L'.getD 2 false && !L'.getD 5 false && !L'.getD 6 false && !L'.getD 7 false) || (i == 2 && L'.getD 0 false && !L'.getD 2 false && !L'.getD 5 false && !L'.getD 6 false && !L'.getD 7 false) || (i == 4 && !L'.getD 4 false && !L'.getD 5 false && !L'.getD 6 false && !L'.getD 7 false) || (i == 5 && L'.getD 2 false && L'.getD 4 false && !L'.getD 5 false && !L'.getD 6 false && !L'.getD 7 false) || (i == 6 && L'.getD 5 false && !L'.getD 6 false && !L'.getD 7 false) || (i == 7 && L'.getD 5 false && L'.getD 6 false && L'.getD 0 false && L'.getD 2 false && L'.getD 4 false && !L'.getD 7 false))) (fin := fun L' => L'.getD 7 false) [1, 3] 6 (by kernel_rfl) (by kernel_rfl) (by kernel_rfl) (by kernel_rfl) (by decide) hS0 ?_ ?_ ?_
  · intro i L' a w hp hI
    obtain ⟨u63, u65, u67, u68, u69, rfl, hSw, hP0, hP2, hP4, hP5, hP6, hP7, hN⟩ := hI
    simp only [Bool.and_eq_true, Bool.or_eq_true, beq_iff_eq, Bool.not_eq_true'] at hp
    obtain ⟨hsz, hp⟩ := hp
    rcases hp with (((((⟨⟨⟨⟨⟨rfl, gn0⟩, gn2⟩, gn5⟩, gn6⟩, gn7⟩ | ⟨⟨⟨⟨⟨rfl, gd0⟩, gn2⟩, gn5⟩, gn6⟩, gn7⟩) | ⟨⟨⟨⟨rfl, gn4⟩, gn5⟩, gn6⟩, gn7⟩) | ⟨⟨⟨⟨⟨rfl, gd2⟩, gd4⟩, gn5⟩, gn6⟩, gn7⟩) | ⟨⟨⟨rfl, gd5⟩, gn6⟩, gn7⟩) | ⟨⟨⟨⟨⟨⟨rfl, gd5⟩, gd6⟩, gd0⟩, gd2⟩, gd4⟩, gn7⟩)
    · have g0 : (L'.setIfInBounds 0 true).getD 0 false = true := by rw [up_set, if_pos ⟨rfl, by omega⟩]
      have g2 : (L'.setIfInBounds 0 true).getD 2 false = L'.getD 2 false := by rw [up_set, if_neg (by omega)]
      have g4 : (L'.setIfInBounds 0 true).getD 4 false = L'.getD 4 false := by rw [up_set, if_neg (by omega)]
      have g5 : (L'.setIfInBounds 0 true).getD 5 false = L'.getD 5 false := by rw [up_set, if_neg (by omega)]
      have g6 : (L'.setIfInBounds 0 true).getD 6 false = L'.getD 6 false := by rw [up_set, if_neg (by omega)]
      have g7 : (L'.setIfInBounds 0 true).getD 7 false = L'.getD 7 false := by rw [up_set, if_neg (by omega)]
      have hb : RowKit.Below w.heap.size w (w.alloc (.cells #[] 38)) := below_alloc1 _ _
      have hSn := grows_trans hSw (below_grows hb)
      refine par_run ⟨some 63, _, _, _, _, _⟩ (.slice (some ⟨w.heap.size, 0, none⟩) 0 0) (w.alloc (.cells #[] 38)) rfl (by rfl) (by go_simp) ?_
      exact ⟨hSn, (.slice (some ⟨w.heap.size, 0, none⟩) 0 0), (u65), (u67), (u68), (u69), by simp only [Act.put, List.setIfInBounds_toArray, List.set_cons_zero, List.set_cons_succ], hSn, fun _ _ => Laid.new w _ _ _ hSw.size, by rw [g2, g5]; exact fun e e2 => absurd (e.symm.trans gn2) (by decide), by rw [g4, g5]; exact fun e e2 => (hP4 e e2).below hb, by rw [g5, g7]; exact fun e e2 => absurd (e.symm.trans gn5) (by decide), by rw [g6]; exact fun e => absurd (e.symm.trans gn6) (by decide), by rw [g7]; exact fun e => absurd (e.symm.trans gn7) (by decide), by rw [g7]; exact fun e => below_next (hN e) hb⟩
    · have g0 : (L'.setIfInBounds 2 true).getD 0 false = L'.getD 0 false := by rw [up_set, if_neg (by omega)]
      have g2 : (L'.setIfInBounds 2 true).getD 2 false = true := by rw [up_set, if_pos ⟨rfl, by omega⟩]
      have g4 : (L'.setIfInBounds 2 true).getD 4 false = L'.getD 4 false := by rw [up_set, if_neg (by omega)]
      have g5 : (L'.setIfInBounds 2 true).getD 5 false = L'.getD 5 false := by rw [up_set, if_neg (by omega)]
      have g6 : (L'.setIfInBounds 2 true).getD 6 false = L'.getD 6 false := by rw [up_set, if_neg (by omega)]
      have g7 : (L'.setIfInBounds 2 true).getD 7 false = L'.getD 7 false := by rw [up_set, if_neg (by omega)]
      have hD0 := hP0 gd0 gn2
      have own := hD0.own (k := 2)
      refine par_append seatT ⟨some 65, _, _, _, _, _⟩ rfl (by rfl) (.tmp 63) (.tmp 64) (by rfl) W.heap.size _ _ [] X (by rfl) (by rfl) own (HR.out.below (hN gn7)) (by simp only [List.length_nil]; omega) hSw.size ?_
      intro v' wn hA
      have hg := hA.grown
      have hSn := grow_keep hSw hg (fun q hq => (own.lt q hq).1)
      have hbN : L'.getD 7 false = false → RowKit.Below W.heap.size W wn := fun e => (hN e).grown hg (hN e).size (fun q hq => (own.lt q hq).1)
      exact ⟨hSn, (u63), (v'), (u67), (u68), (u69), by simp only [Act.put, List.setIfInBounds_toArray, List.set_cons_zero, List.set_cons_succ], hSn, by rw [g2]; exact fun _ e => absurd e (by decide), fun _ _ => (by have h := hA.own; rwa [List.nil_append] at h), by rw [g4, g5]; exact fun e e2 => (hP4 e e2).grown hg (hD0.apart (by simp)), by rw [g5, g7]; exact fun e e2 => absurd (e.symm.trans gn5) (by decide), by rw [g6]; exact fun e => absurd (e.symm.trans gn6) (by decide), by rw [g7]; exact fun e => absurd (e.symm.trans gn7) (by decide), by rw [g7]; exact hbN⟩
    · have g0 : (L'.setIfInBounds 4 true).getD 0 false = L'.getD 0 false := by rw [up_set, if_neg (by omega)]
      have g2 : (L'.setIfInBounds 4 true).getD 2 false = L'.getD 2 false := by rw [up_set, if_neg (by omega)]
      have g4 : (L'.setIfInBounds 4 true).getD 4 false = true := by rw [up_set, if_pos ⟨rfl, by omega⟩]
      have g5 : (L'.setIfInBounds 4 true).getD 5 false = L'.getD 5 false := by rw [up_set, if_neg (by omega)]
      have g6 : (L'.setIfInBounds 4 true).getD 6 false = L'.getD 6 false := by rw [up_set, if_neg (by omega)]
      have g7 : (L'.setIfInBounds 4 true).getD 7 false = L'.getD 7 false := by rw [up_set, if_neg (by omega)]
      have hb : RowKit.Below w.heap.size w (w.alloc (.cells #[.int .i64 s.student, .string s.code] 38)) := below_alloc1 _ _
      have hSn := grows_trans hSw (below_grows hb)
      refine par_run ⟨some 67, _, _, _, _, _⟩ (.slice (some ⟨w.heap.size, 0, none⟩) 1 1) (w.alloc (.cells #[.int .i64 s.student, .string s.code] 38)) rfl (by rfl) (by go_simp) ?_
      exact ⟨hSn, (u63), (u65), (.slice (some ⟨w.heap.size, 0, none⟩) 1 1), (u68), (u69), by simp only [Act.put, List.setIfInBounds_toArray, List.set_cons_zero, List.set_cons_succ], hSn, by rw [g0, g2]; exact fun e e2 => (hP0 e e2).below hb, by rw [g2, g5]; exact fun e e2 => own_below (hP2 e e2) hb, fun _ _ => Laid.new w _ _ _ hSw.size, by rw [g5, g7]; exact fun e e2 => absurd (e.symm.trans gn5) (by decide), by rw [g6]; exact fun e => absurd (e.symm.trans gn6) (by decide), by rw [g7]; exact fun e => absurd (e.symm.trans gn7) (by decide), by rw [g7]; exact fun e => below_next (hN e) hb⟩
    · have g0 : (L'.setIfInBounds 5 true).getD 0 false = L'.getD 0 false := by rw [up_set, if_neg (by omega)]
      have g2 : (L'.setIfInBounds 5 true).getD 2 false = L'.getD 2 false := by rw [up_set, if_neg (by omega)]
      have g4 : (L'.setIfInBounds 5 true).getD 4 false = L'.getD 4 false := by rw [up_set, if_neg (by omega)]
      have g5 : (L'.setIfInBounds 5 true).getD 5 false = true := by rw [up_set, if_pos ⟨rfl, by omega⟩]
      have g6 : (L'.setIfInBounds 5 true).getD 6 false = L'.getD 6 false := by rw [up_set, if_neg (by omega)]
      have g7 : (L'.setIfInBounds 5 true).getD 7 false = L'.getD 7 false := by rw [up_set, if_neg (by omega)]
      have hD2 := hP2 gd2 gn5
      have hD4 := hP4 gd4 gn5
      refine par_append seatT ⟨some 68, _, _, _, _, _⟩ rfl (by rfl) (.tmp 65) (.tmp 67) (by rfl) W.heap.size _ _ X [s] (by rfl) (by rfl) hD2 (hD4.row [s] rfl rfl) (by simp only [List.length_singleton]; omega) hSw.size ?_
      intro v' wn hA
      have hg := hA.grown
      have hSn := grow_keep hSw hg (fun q hq => (hD2.lt q hq).1)
      have hbN : L'.getD 7 false = false → RowKit.Below W.heap.size W wn := fun e => (hN e).grown hg (hN e).size (fun q hq => (hD2.lt q hq).1)
      exact ⟨hSn, (u63), (u65), (u67), (v'), (u69), by simp only [Act.put, List.setIfInBounds_toArray, List.set_cons_zero, List.set_cons_succ], hSn, by rw [g0, g2]; exact fun e e2 => absurd (gd2.symm.trans e2) (by decide), by rw [g5]; exact fun _ e => absurd e (by decide), by rw [g5]; exact fun _ e => absurd e (by decide), fun _ _ => hA.own, by rw [g6]; exact fun e => absurd (e.symm.trans gn6) (by decide), by rw [g7]; exact fun e => absurd (e.symm.trans gn7) (by decide), by rw [g7]; exact hbN⟩
    · have g0 : (L'.setIfInBounds 6 true).getD 0 false = L'.getD 0 false := by rw [up_set, if_neg (by omega)]
      have g2 : (L'.setIfInBounds 6 true).getD 2 false = L'.getD 2 false := by rw [up_set, if_neg (by omega)]
      have g4 : (L'.setIfInBounds 6 true).getD 4 false = L'.getD 4 false := by rw [up_set, if_neg (by omega)]
      have g5 : (L'.setIfInBounds 6 true).getD 5 false = L'.getD 5 false := by rw [up_set, if_neg (by omega)]
      have g6 : (L'.setIfInBounds 6 true).getD 6 false = true := by rw [up_set, if_pos ⟨rfl, by omega⟩]
      have g7 : (L'.setIfInBounds 6 true).getD 7 false = L'.getD 7 false := by rw [up_set, if_neg (by omega)]
      have hD5 := hP5 gd5 gn7
      have hSn := hSw
      refine par_run ⟨some 69, _, _, _, _, _⟩ (.pointer (some ⟨bd, 0, none⟩)) w rfl (by rfl) (by go_simp) ?_
      exact ⟨hSn, (u63), (u65), (u67), (u68), (.pointer (some ⟨bd, 0, none⟩)), by simp only [Act.put, List.setIfInBounds_toArray, List.set_cons_zero, List.set_cons_succ], hSn, by rw [g0, g2]; exact hP0, by rw [g2, g5]; exact hP2, by rw [g4, g5]; exact hP4, by rw [g5, g7]; exact hP5, fun _ => rfl, by rw [g7]; exact fun e => absurd (e.symm.trans gn7) (by decide), by rw [g7]; exact hN⟩
    · have g0 : (L'.setIfInBounds 7 true).getD 0 false = L'.getD 0 false := by rw [up_set, if_neg (by omega)]
      have g2 : (L'.setIfInBounds 7 true).getD 2 false = L'.getD 2 false := by rw [up_set, if_neg (by omega)]
      have g4 : (L'.setIfInBounds 7 true).getD 4 false = L'.getD 4 false := by rw [up_set, if_neg (by omega)]
      have g5 : (L'.setIfInBounds 7 true).getD 5 false = L'.getD 5 false := by rw [up_set, if_neg (by omega)]
      have g6 : (L'.setIfInBounds 7 true).getD 6 false = L'.getD 6 false := by rw [up_set, if_neg (by omega)]
      have g7 : (L'.setIfInBounds 7 true).getD 7 false = true := by rw [up_set, if_pos ⟨rfl, by omega⟩]
      have hD5 := hP5 gd5 gn7
      have hD6 := hP6 gd6
      subst hD6
      obtain ⟨p5, c5, rfl⟩ := own_form hD5
      have hbx := ((hN gn7).block bd (lt_of_heap hx)).trans hx
      have hcx := Lib.cell_of_heap hbx 0
      have hfx := Lib.frozen_of_heap hbx 0
      have hg := Only.setCell w bd 0 (.slice p5 (X ++ [s]).length c5) 0
      have hSn : W.grownBy (w.setCell ⟨bd, 0, none⟩ (.slice p5 (X ++ [s]).length c5)) (some bd) := grows_trans hSw hg
      refine par_put ⟨none, _, _, _, _, _⟩ (w.setCell ⟨bd, 0, none⟩ (.slice p5 (X ++ [s]).length c5)) rfl (by rfl) (by go_simp) ?_
      exact ⟨hSn, (u63), (u65), (u67), (.slice p5 (X ++ [s]).length c5), (.pointer (some ⟨bd, 0, none⟩)), by simp only [Act.put], hSn, by rw [g0, g2]; exact fun e e2 => absurd (gd2.symm.trans e2) (by decide), by rw [g2, g5]; exact fun e e2 => absurd (gd5.symm.trans e2) (by decide), by rw [g4, g5]; exact fun e e2 => absurd (gd5.symm.trans e2) (by decide), by rw [g7]; exact fun _ e => absurd e (by decide), by rw [g6]; exact hP6, fun _ => ⟨p5, c5, by simp [World.setCell, Array.getElem?_modify, hbx], own_set hD5 (lt_of_heap hx) 0 _⟩, by rw [g7]; exact fun e => absurd e (by decide)⟩
  · intro L' a w hp hI
    obtain ⟨u63, u65, u67, u68, u69, rfl, hSw, hP0, hP2, hP4, hP5, hP6, hP7, hN⟩ := hI
    (try simp only [Bool.and_eq_true] at hp)
    have p7 := hp
    obtain ⟨p, c, hbx, hro⟩ := hP7 p7
    exact HQ.out _ _ _ _ _ p c w hSw hbx hro
  · refine par_take ⟨some 64, _, _, _, _, _⟩ ?_ rfl (by rfl) ?_ ?_
    rotate_left 1
    · intro w hSw; (try dsimp only at hSw); go_simp; (try with_reducible rfl)
    simp only [Act.put, List.setIfInBounds_toArray, List.set_cons_zero, List.set_cons_succ]
    refine par_take_row ⟨some 66, _, _, _, _, _⟩ rfl (by rfl) 38 (.tmp 13) (by rfl) bs 0 (by rfl) [.int .i64 s.student, .string s.code] _ (fun w hSw => sb_at hs hne hSw) Tryz.underlying38 rfl (by kernel_rfl) ?_
    simp only [Act.put, List.setIfInBounds_toArray, List.set_cons_zero, List.set_cons_succ]
    exact ⟨_, _, _, _, _, rfl, hS0, (fun e => absurd e (by decide +kernel)), (fun e => absurd e (by decide +kernel)), (fun e => absurd e (by decide +kernel)), (fun e => absurd e (by decide +kernel)), (fun e => absurd e (by decide +kernel)), (fun e => absurd e (by decide +kernel)), (fun _ => (Below.refl _ _).drew)⟩
end Go.Proofs.YtjcogpalmgcpbaaGreat
