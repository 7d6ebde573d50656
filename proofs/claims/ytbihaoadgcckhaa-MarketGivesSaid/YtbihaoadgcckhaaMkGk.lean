/- The law MarketGives: the second answer. -/
import Derived.Test.YtbihaoadgcckhaaMkGj
import Derived.Test.YtbihaoadgcckhaaQFlow2
namespace Go.Proofs.Ytbihaoadgcckhaa
open Go Go.Proofs Go.RowKit Go.Maps Go.Sort Go.Lib

theorem tree_deal_at {ops : Array Oper} {Q : Exit → Act → World → Prop} {S : World → Prop} {i : Nat} {t : FlowT} {a : Act} {w : World} (oi : Oper) (sv wv : Value) (g : Nat) (hi : ops[i]? = some oi) (hw : Region.wanted oi (yielded ops a.tmps) = true)
    (p : Operand) (ho : oi.op = .load 37 p) (hp : a.eval p = .pointer (some ⟨g, 0, none⟩)) (hc : ∀ w, S w → w.rangeAt g 0 [sv, wv])
    (h : wpTree Try.prog ops Q S t (a.put oi.dst (.agg #[sv, wv])) w) : wpTree Try.prog ops Q S (.take i t) a w :=
  tree_take oi (.agg #[sv, wv]) hi hw (fun w hS => by
    have hl : (Instr.loadAt 37 (.pointer (some ⟨g, 0, none⟩))).run Try.prog w = .ok (.agg #[sv, wv]) w := run_loadAt_mid w g 0 37 [sv, wv] _ (hc w hS) Try.underlying37 rfl (by kernel_rfl)
    unfold execOp
    simp only [ho, hp, Sem.run_bind, Sem.run_pure, hl, Result.andThen_ok]) h

set_option maxHeartbeats 4000000 in
set_option maxRecDepth 100000 in
theorem giv_r14 {s0 s1 s2 s3 s4 s6 s7 s8 s9 s13 s14 s15 s16 s18 s19 s20 s21 s22 s23 s24 s25 s26 s27 s28 s29 s30 s31 s32 s33 s34 s35 s36 s37 s38 s39 s40 s41 s42 s43 s44 s45 s46 s47 s48 s49 s50 s51 s52 s53 s54 s55 s56 s57 s58 s59 s60 s61 s62 s63 s64 s65 s66 s67 s68 s69 s70 s71 s72 s73 s74 s75 s76 s77 s78 s79 s80 s81 s82 s83 s84 s85 s86 s87 s88 s89 s90 s91 s92 s93 s94 s95 s96 s97 s98 s99 s100 s101 s102 s103 s104 s105 s106 s107 s108 s109 s110 s111 s112 s113 s114 s115 s116 s117 s118 s119 s120 s121 s122 s123 s124 s125 s126 s127 s128 s129 s130 s131 s132 s133 : Value} (db : Nat) (sv wv : Value) (s : Int) (g c : ByteArray) (W : World) (Q : Exit → Act → World → Prop) (hcell : db < W.heap.size ∧ ∀ j, W.cell? ⟨db, j, none⟩ = (#[sv, wv] : Array Value)[j]?) (hd : DealIn W (.agg #[sv, wv]) ⟨[⟨s, g⟩], [⟨s, c⟩]⟩)
    (hQ : ∀ (u107 u108 u109 u110 u111 u112 u113 u114 u115 u116 u117 u118 u119 u120 : Value) (wx : World), RowKit.Below W.heap.size W wx → Q .normal ⟨List.toArray (s0 :: s1 :: s2 :: s3 :: .bool true :: .bool true :: s6 :: s7 :: s8 :: s9 :: .int .i64 s :: .string g :: .string c :: s13 :: s14 :: s15 :: s16 :: .pointer (some ⟨db, 0, none⟩) :: s18 :: s19 :: s20 :: s21 :: s22 :: s23 :: s24 :: s25 :: s26 :: s27 :: s28 :: s29 :: s30 :: s31 :: s32 :: s33 :: s34 :: s35 :: s36 :: s37 :: s38 :: s39 :: s40 :: s41 :: s42 :: s43 :: s44 :: s45 :: s46 :: s47 :: s48 :: s49 :: s50 :: s51 :: s52 :: s53 :: s54 :: s55 :: s56 :: s57 :: s58 :: s59 :: s60 :: s61 :: s62 :: s63 :: s64 :: s65 :: s66 :: s67 :: s68 :: s69 :: s70 :: s71 :: s72 :: s73 :: s74 :: s75 :: s76 :: s77 :: s78 :: s79 :: s80 :: s81 :: s82 :: s83 :: s84 :: s85 :: s86 :: s87 :: s88 :: s89 :: s90 :: s91 :: s92 :: s93 :: s94 :: s95 :: s96 :: s97 :: s98 :: s99 :: s100 :: s101 :: s102 :: s103 :: s104 :: s105 :: s106 :: u107 :: u108 :: u109 :: u110 :: u111 :: u112 :: u113 :: u114 :: u115 :: u116 :: u117 :: u118 :: u119 :: u120 :: s121 :: s122 :: s123 :: s124 :: s125 :: s126 :: s127 :: s128 :: s129 :: s130 :: s131 :: s132 :: s133 :: []), []⟩ wx) :
    (regionOf Try.f5 14).wp Try.prog Q ⟨List.toArray (s0 :: s1 :: s2 :: s3 :: s4 :: .bool true :: s6 :: s7 :: s8 :: s9 :: .int .i64 s :: .string g :: .string c :: s13 :: s14 :: s15 :: s16 :: .pointer (some ⟨db, 0, none⟩) :: s18 :: s19 :: s20 :: s21 :: s22 :: s23 :: s24 :: s25 :: s26 :: s27 :: s28 :: s29 :: s30 :: s31 :: s32 :: s33 :: s34 :: s35 :: s36 :: s37 :: s38 :: s39 :: s40 :: s41 :: s42 :: s43 :: s44 :: s45 :: s46 :: s47 :: s48 :: s49 :: s50 :: s51 :: s52 :: s53 :: s54 :: s55 :: s56 :: s57 :: s58 :: s59 :: s60 :: s61 :: s62 :: s63 :: s64 :: s65 :: s66 :: s67 :: s68 :: s69 :: s70 :: s71 :: s72 :: s73 :: s74 :: s75 :: s76 :: s77 :: s78 :: s79 :: s80 :: s81 :: s82 :: s83 :: s84 :: s85 :: s86 :: s87 :: s88 :: s89 :: s90 :: s91 :: s92 :: s93 :: s94 :: s95 :: s96 :: s97 :: s98 :: s99 :: s100 :: s101 :: s102 :: s103 :: s104 :: s105 :: s106 :: s107 :: s108 :: s109 :: s110 :: s111 :: s112 :: s113 :: s114 :: s115 :: s116 :: s117 :: s118 :: s119 :: s120 :: s121 :: s122 :: s123 :: s124 :: s125 :: s126 :: s127 :: s128 :: s129 :: s130 :: s131 :: s132 :: s133 :: []), []⟩ W := by
  refine of_onlyN (K := Q .normal) ?_ (fun _ _ h => h)
  generalize Q .normal = K at hQ ⊢
  have HQ := Lib.hid hQ; clear hQ
  conv => arg 2; whnf
  have HD := Lib.hid hd
  clear hd
  have hS : RowKit.Below W.heap.size W W.drew := (Below.refl _ _).drew
  refine of_onlyN ?_ (fun _ _ h => h)
  refine wp_region_tree (S := fun w' => RowKit.Below W.heap.size W w') (.take 0 (.take 1 (.take 2 (.take 3 (.take 4 (.take 7 (.take 8 (.one 5 (.two 6 9 (.one 9 (.one 10 (.take 11 (.one 12 (.take 13 (.take 14 .done)))))) (.two 6 10 (.one 10 (.take 11 (.one 12 (.take 13 (.take 14 .done))))) (.one 6 (.take 11 (.one 12 (.take 13 (.take 14 .done))))))))))))))) (by kernel_rfl) (by kernel_rfl) (by kernel_rfl) (by decide) hS ?_
  refine tree_take ⟨some 107, _, _, _, _, _⟩ ?_ rfl (by rfl) ?_ ?_
  rotate_left 1
  · intro w hSw; (try dsimp only at hSw); go_simp; (try with_reducible rfl)
  (try simp only [Act.put, List.setIfInBounds_toArray, List.set_cons_zero, List.set_cons_succ])
  refine tree_take ⟨some 108, _, _, _, _, _⟩ ?_ rfl (by rfl) ?_ ?_
  rotate_left 1
  · intro w hSw; (try dsimp only at hSw); go_simp; (try with_reducible rfl)
  (try simp only [Act.put, List.setIfInBounds_toArray, List.set_cons_zero, List.set_cons_succ])
  refine tree_deal_at ⟨some 109, _, _, _, _, _⟩ sv wv db rfl (by rfl) (.tmp 17) (by rfl) (by rfl) (fun w hS => or_at hcell hS) ?_
  (try simp only [Act.put, List.setIfInBounds_toArray, List.set_cons_zero, List.set_cons_succ])
  refine tree_take ⟨some 110, _, _, _, _, _⟩ ?_ rfl (by rfl) ?_ ?_
  rotate_left 1
  · intro w hSw; (try dsimp only at hSw); go_simp; (try with_reducible rfl)
  (try simp only [Act.put, List.setIfInBounds_toArray, List.set_cons_zero, List.set_cons_succ])
  refine tree_take ⟨some 111, _, _, _, _, _⟩ ?_ rfl (by rfl) ?_ ?_
  rotate_left 1
  · intro w hSw; (try dsimp only at hSw); go_simp; (try with_reducible rfl)
  (try simp only [Act.put, List.setIfInBounds_toArray, List.set_cons_zero, List.set_cons_succ])
  refine tree_take ⟨some 114, _, _, _, _, _⟩ ?_ rfl (by rfl) ?_ ?_
  rotate_left 1
  · intro w hSw; (try dsimp only at hSw); go_simp; (try with_reducible rfl)
  (try simp only [Act.put, List.setIfInBounds_toArray, List.set_cons_zero, List.set_cons_succ])
  refine tree_take ⟨some 115, _, _, _, _, _⟩ ?_ rfl (by rfl) ?_ ?_
  rotate_left 1
  · intro w hSw; (try dsimp only at hSw); go_simp; (try with_reducible rfl)
  (try simp only [Act.put, List.setIfInBounds_toArray, List.set_cons_zero, List.set_cons_succ])
  refine tree_one (come_call ⟨some 112, _, _, _, _, _⟩ rfl (by rfl) 14 _ _ (by rfl) _ (by rfl) Try.call14 (seat_any _ _ _) ?_)
  rintro x w1 ⟨rfl, hb⟩
  replace hS := below_next hS hb
  refine ⟨_, rfl, hS, ?_⟩
  clear hb
  (try simp only [Act.put, List.setIfInBounds_toArray, List.set_cons_zero, List.set_cons_succ])
  refine tree_two ?_ ?_
  · refine come_run ⟨some 113, _, _, _, _, _⟩ (.slice (some ⟨w1.heap.size, 0, none⟩) 1 1) (w1.alloc (.cells #[.int .i64 s, .string g] 40)) rfl (by rfl) (by go_simp) ⟨below_next hS (below_alloc1 _ _), ?_⟩
    have hb := below_alloc1 w1 (.cells #[.int .i64 s, .string g] 40)
    replace hS := below_next hS hb
    clear hb
    have rA := rowIn_lit (enc := Seat.cells) (e := 40) w1 [⟨s, g⟩] #[.int .i64 s, .string g] (w1.heap.size) rfl rfl 1 rfl
    (try simp only [Act.put, List.setIfInBounds_toArray, List.set_cons_zero, List.set_cons_succ])
    refine tree_one (come_call ⟨some 116, _, _, _, _, _⟩ rfl (by rfl) 14 _ _ (by rfl) _ (by rfl) Try.call14 (seat_any _ _ _) ?_)
    rintro x w2 ⟨rfl, hb⟩
    replace hS := below_next hS hb
    replace rA := rA.below hb
    refine ⟨_, rfl, hS, ?_⟩
    clear hb
    (try simp only [Act.put, List.setIfInBounds_toArray, List.set_cons_zero, List.set_cons_succ])
    refine tree_one (come_run ⟨some 117, _, _, _, _, _⟩ (.slice (some ⟨w2.heap.size, 0, none⟩) 1 1) (w2.alloc (.cells #[.int .i64 s, .string c] 40)) rfl (by rfl) (by go_simp) ⟨below_next hS (below_alloc1 _ _), ?_⟩)
    have hb := below_alloc1 w2 (.cells #[.int .i64 s, .string c] 40)
    replace hS := below_next hS hb
    replace rA := rA.below hb
    clear hb
    have rB := rowIn_lit (enc := Seat.cells) (e := 40) w2 [⟨s, c⟩] #[.int .i64 s, .string c] (w2.heap.size) rfl rfl 1 rfl
    (try simp only [Act.put, List.setIfInBounds_toArray, List.set_cons_zero, List.set_cons_succ])
    refine tree_take ⟨some 118, _, _, _, _, _⟩ ?_ rfl (by rfl) ?_ ?_
    rotate_left 1
    · intro w hSw; (try dsimp only at hSw); go_simp; (try with_reducible rfl)
    (try simp only [Act.put, List.setIfInBounds_toArray, List.set_cons_zero, List.set_cons_succ])
    refine tree_one (come_call ⟨some 119, _, _, _, _, _⟩ rfl (by rfl) 18 _ _ (by rfl) _ (by rfl) Try.call18 (refSame_again hS HD.out (DealIn.mk' (d := ⟨[⟨s, g⟩], [⟨s, c⟩]⟩) rA rB (by simp) (by simp))) ?_)
    rintro x w3 ⟨rfl, hb⟩
    replace hS := below_next hS hb
    replace rA := rA.below hb
    replace rB := rB.below hb
    refine ⟨_, rfl, hS, ?_⟩
    clear hb
    (try simp only [Act.put, List.setIfInBounds_toArray, List.set_cons_zero, List.set_cons_succ])
    refine tree_take ⟨some 120, _, _, _, _, _⟩ ?_ rfl (by rfl) ?_ ?_
    rotate_left 1
    · intro w hSw; (try dsimp only at hSw); go_simp; (try with_reducible rfl)
    (try simp only [Act.put, List.setIfInBounds_toArray, List.set_cons_zero, List.set_cons_succ])
    refine tree_take ⟨some 4, _, _, _, _, _⟩ ?_ rfl (by rfl) ?_ ?_
    rotate_left 1
    · intro w hSw; (try dsimp only at hSw); go_simp; (try with_reducible rfl)
    (try simp only [Act.put, List.setIfInBounds_toArray, List.set_cons_zero, List.set_cons_succ])
    simp only [wpTree, OnlyN]
    exact HQ.out _ _ _ _ _ _ _ _ _ _ _ _ _ _ _ hS
  · refine come_call ⟨some 116, _, _, _, _, _⟩ rfl (by rfl) 14 _ _ (by rfl) _ (by rfl) Try.call14 (seat_any _ _ _) ?_
    rintro x w4 ⟨rfl, hb⟩
    replace hS := below_next hS hb
    refine ⟨_, rfl, hS, ?_⟩
    clear hb
    (try simp only [Act.put, List.setIfInBounds_toArray, List.set_cons_zero, List.set_cons_succ])
    refine tree_two ?_ ?_
    · refine come_run ⟨some 113, _, _, _, _, _⟩ (.slice (some ⟨w4.heap.size, 0, none⟩) 1 1) (w4.alloc (.cells #[.int .i64 s, .string g] 40)) rfl (by rfl) (by go_simp) ⟨below_next hS (below_alloc1 _ _), ?_⟩
      have hb := below_alloc1 w4 (.cells #[.int .i64 s, .string g] 40)
      replace hS := below_next hS hb
      clear hb
      have rA := rowIn_lit (enc := Seat.cells) (e := 40) w4 [⟨s, g⟩] #[.int .i64 s, .string g] (w4.heap.size) rfl rfl 1 rfl
      (try simp only [Act.put, List.setIfInBounds_toArray, List.set_cons_zero, List.set_cons_succ])
      refine tree_one (come_run ⟨some 117, _, _, _, _, _⟩ (.slice (some ⟨w4.heap.size + 1, 0, none⟩) 1 1) ((w4.alloc (.cells #[.int .i64 s, .string g] 40)).alloc (.cells #[.int .i64 s, .string c] 40)) rfl (by rfl) (by go_simp) ⟨below_next hS (below_alloc1 _ _), ?_⟩)
      have hb := below_alloc1 (w4.alloc (.cells #[.int .i64 s, .string g] 40)) (.cells #[.int .i64 s, .string c] 40)
      replace hS := below_next hS hb
      replace rA := rA.below hb
      clear hb
      have rB := rowIn_lit (enc := Seat.cells) (e := 40) (w4.alloc (.cells #[.int .i64 s, .string g] 40)) [⟨s, c⟩] #[.int .i64 s, .string c] (w4.heap.size + 1) (by simp) rfl 1 rfl
      (try simp only [Act.put, List.setIfInBounds_toArray, List.set_cons_zero, List.set_cons_succ])
      refine tree_take ⟨some 118, _, _, _, _, _⟩ ?_ rfl (by rfl) ?_ ?_
      rotate_left 1
      · intro w hSw; (try dsimp only at hSw); go_simp; (try with_reducible rfl)
      (try simp only [Act.put, List.setIfInBounds_toArray, List.set_cons_zero, List.set_cons_succ])
      refine tree_one (come_call ⟨some 119, _, _, _, _, _⟩ rfl (by rfl) 18 _ _ (by rfl) _ (by rfl) Try.call18 (refSame_again hS HD.out (DealIn.mk' (d := ⟨[⟨s, g⟩], [⟨s, c⟩]⟩) rA rB (by simp) (by simp))) ?_)
      rintro x w5 ⟨rfl, hb⟩
      replace hS := below_next hS hb
      replace rA := rA.below hb
      replace rB := rB.below hb
      refine ⟨_, rfl, hS, ?_⟩
      clear hb
      (try simp only [Act.put, List.setIfInBounds_toArray, List.set_cons_zero, List.set_cons_succ])
      refine tree_take ⟨some 120, _, _, _, _, _⟩ ?_ rfl (by rfl) ?_ ?_
      rotate_left 1
      · intro w hSw; (try dsimp only at hSw); go_simp; (try with_reducible rfl)
      (try simp only [Act.put, List.setIfInBounds_toArray, List.set_cons_zero, List.set_cons_succ])
      refine tree_take ⟨some 4, _, _, _, _, _⟩ ?_ rfl (by rfl) ?_ ?_
      rotate_left 1
      · intro w hSw; (try dsimp only at hSw); go_simp; (try with_reducible rfl)
      (try simp only [Act.put, List.setIfInBounds_toArray, List.set_cons_zero, List.set_cons_succ])
      simp only [wpTree, OnlyN]
      exact HQ.out _ _ _ _ _ _ _ _ _ _ _ _ _ _ _ hS
    · refine come_run ⟨some 117, _, _, _, _, _⟩ (.slice (some ⟨w4.heap.size, 0, none⟩) 1 1) (w4.alloc (.cells #[.int .i64 s, .string c] 40)) rfl (by rfl) (by go_simp) ⟨below_next hS (below_alloc1 _ _), ?_⟩
      have hb := below_alloc1 w4 (.cells #[.int .i64 s, .string c] 40)
      replace hS := below_next hS hb
      clear hb
      have rB := rowIn_lit (enc := Seat.cells) (e := 40) w4 [⟨s, c⟩] #[.int .i64 s, .string c] (w4.heap.size) rfl rfl 1 rfl
      (try simp only [Act.put, List.setIfInBounds_toArray, List.set_cons_zero, List.set_cons_succ])
      refine tree_one (come_run ⟨some 113, _, _, _, _, _⟩ (.slice (some ⟨w4.heap.size + 1, 0, none⟩) 1 1) ((w4.alloc (.cells #[.int .i64 s, .string c] 40)).alloc (.cells #[.int .i64 s, .string g] 40)) rfl (by rfl) (by go_simp) ⟨below_next hS (below_alloc1 _ _), ?_⟩)
      have hb := below_alloc1 (w4.alloc (.cells #[.int .i64 s, .string c] 40)) (.cells #[.int .i64 s, .string g] 40)
      replace hS := below_next hS hb
      replace rB := rB.below hb
      clear hb
      have rA := rowIn_lit (enc := Seat.cells) (e := 40) (w4.alloc (.cells #[.int .i64 s, .string c] 40)) [⟨s, g⟩] #[.int .i64 s, .string g] (w4.heap.size + 1) (by simp) rfl 1 rfl
      (try simp only [Act.put, List.setIfInBounds_toArray, List.set_cons_zero, List.set_cons_succ])
      refine tree_take ⟨some 118, _, _, _, _, _⟩ ?_ rfl (by rfl) ?_ ?_
      rotate_left 1
      · intro w hSw; (try dsimp only at hSw); go_simp; (try with_reducible rfl)
      (try simp only [Act.put, List.setIfInBounds_toArray, List.set_cons_zero, List.set_cons_succ])
      refine tree_one (come_call ⟨some 119, _, _, _, _, _⟩ rfl (by rfl) 18 _ _ (by rfl) _ (by rfl) Try.call18 (refSame_again hS HD.out (DealIn.mk' (d := ⟨[⟨s, g⟩], [⟨s, c⟩]⟩) rA rB (by simp) (by simp))) ?_)
      rintro x w6 ⟨rfl, hb⟩
      replace hS := below_next hS hb
      replace rB := rB.below hb
      replace rA := rA.below hb
      refine ⟨_, rfl, hS, ?_⟩
      clear hb
      (try simp only [Act.put, List.setIfInBounds_toArray, List.set_cons_zero, List.set_cons_succ])
      refine tree_take ⟨some 120, _, _, _, _, _⟩ ?_ rfl (by rfl) ?_ ?_
      rotate_left 1
      · intro w hSw; (try dsimp only at hSw); go_simp; (try with_reducible rfl)
      (try simp only [Act.put, List.setIfInBounds_toArray, List.set_cons_zero, List.set_cons_succ])
      refine tree_take ⟨some 4, _, _, _, _, _⟩ ?_ rfl (by rfl) ?_ ?_
      rotate_left 1
      · intro w hSw; (try dsimp only at hSw); go_simp; (try with_reducible rfl)
      (try simp only [Act.put, List.setIfInBounds_toArray, List.set_cons_zero, List.set_cons_succ])
      simp only [wpTree, OnlyN]
      exact HQ.out _ _ _ _ _ _ _ _ _ _ _ _ _ _ _ hS

end Go.Proofs.Ytbihaoadgcckhaa
