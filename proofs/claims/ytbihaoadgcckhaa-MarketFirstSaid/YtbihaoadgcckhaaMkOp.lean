/- The law MarketOrder: two regions as pieces. -/
import Derived.Test.YtbihaoadgcckhaaMkCs
import Derived.Test.YtbihaoadgcckhaaMkSa
import Derived.Test.YtbihaoadgcckhaaMkSn
import Derived.Test.YtbihaoadgcckhaaQFlow
namespace Go.Proofs.Ytbihaoadgcckhaa
open Go Go.Proofs Go.RowKit Go.Maps Go.Sort Go.Lib
attribute [local go_sem] Req.cells

theorem own_empty_at (w : World) (base b : Nat) (h : w.heap.size = b) (hb : base ≤ b) : (w.alloc (.cells #[] 35)).ownsRow base 35 9 (.slice (some ⟨b, 0, none⟩) 0 0) 0 (reqCells []) := by
  subst h; exact World.ownsRow_made w #[] 0 hb (Nat.zero_le _) rfl
theorem ReqsIn.grown {w w' : World} {v : Value} {L : List Req} {row : Option Nat} (h : ReqsIn w v L) (hg : w.grownBy w' row) (hne : v.ownBlock = none ∨ v.ownBlock ≠ row) : ReqsIn w' v L := by
  rcases h with h | ⟨b, o, c, rfl, h2, h3, h4⟩
  · exact .inl h
  · refine .inr ⟨b, o, c, rfl, h2, Nat.lt_of_lt_of_le h3 hg.size, fun j u hj => hg.cell (h4 j u hj) ?_⟩
    rcases hne with hne | hne
    · simp [Value.ownBlock] at hne
    · simpa [Value.ownBlock] using hne
theorem ReqsIn.take {w : World} {b o c : Nat} {L : List Req} (h : ReqsIn w (.slice (some ⟨b, o, none⟩) L.length c) L) (k : Nat) (hk : k ≤ L.length) : ReqsIn w (.slice (some ⟨b, o, none⟩) k c) (L.take k) := by
  rcases h with ⟨h, _⟩ | ⟨b', o', c', h1, h2, h3, h4⟩
  · injection h with h; cases h
  · injection h1 with e1 e2 e3
    simp only [Option.some.injEq, Addr.mk.injEq, and_true] at e1
    obtain ⟨rfl, rfl⟩ := e1
    have hl : (L.take k).length = k := by simp; omega
    refine .inr ⟨b, o, c, by rw [hl], by rw [hl, e3]; omega, h3, fun j u hj => h4 j u ?_⟩
    conv => lhs; rw [← List.take_append_drop k L, reqCells_app]
    rw [List.getElem?_append_left (List.getElem?_eq_some_iff.1 hj).1]; exact hj
theorem ReqsIn.drop {w : World} {b o c : Nat} {L : List Req} (h : ReqsIn w (.slice (some ⟨b, o, none⟩) L.length c) L) (k : Nat) (hk : k ≤ L.length) (a : Nat) (ha : L.length = k ∨ a = o + k * 9) : ReqsIn w (.slice (some ⟨b, a, none⟩) (L.length - k) (c - k)) (L.drop k) := by
  rcases h with ⟨h, _⟩ | ⟨b', o', c', h1, h2, h3, h4⟩
  · injection h with h; cases h
  · injection h1 with e1 e2 e3
    simp only [Option.some.injEq, Addr.mk.injEq, and_true] at e1
    obtain ⟨rfl, rfl⟩ := e1
    refine .inr ⟨b, a, c - k, by rw [List.length_drop], by rw [List.length_drop, e3]; omega, h3, fun j u hj => ?_⟩
    rcases ha with ha | rfl
    · rw [show L.drop k = [] from List.drop_eq_nil_of_le (by omega)] at hj
      simp [reqCells] at hj
    · rw [Nat.add_assoc]
      refine h4 _ u ?_
      conv => lhs; rw [← List.take_append_drop k L, reqCells_app]
      rw [List.getElem?_append_right (by rw [reqCells_len]; simp; omega), reqCells_len, show (L.take k).length = k by simp; omega, show k * 9 + j - k * 9 = j by omega]
      exact hj
theorem flow_append_reqs {ops : Array Oper} {Q : Exit → Act → World → Prop} {S : World → Prop} {i : Nat} {σ : List (Nat × Bool)} {a : Act} {w : World} (oi : Oper) (hi : ops[i]? = some oi) (hw : Region.wanted oi (yielded ops a.tmps) = true)
    (s x : Operand) (ho : oi.op = .call { callee := .builtin .append, args := #[s, x], argTypes := #[30, 30] })
    (base : Nat) (v xv : Value) (X Y : List Req) (hs : a.eval s = v) (hxv : a.eval x = xv) (hown : w.ownsRow base 35 9 v X.length (reqCells X)) (hx : ReqsIn w xv Y) (hl : X.length + Y.length ≤ 1000000) (hb : base ≤ w.heap.size)
    (h : ∀ v' w', AppR w base v X Y v' w' → S w' ∧ wpFlow Try.prog ops Q S σ (a.put oi.dst v') w') : wpFlow Try.prog ops Q S ((i, false) :: σ) a w :=
  flow_op oi hi hw (by
    obtain ⟨v', w', hr, hA⟩ := run_append_reqs2 w base oi.type v xv X Y hown hx hl hb
    unfold Oper.wp execOp
    simp only [ho, resolve, invoke, builtin, Sem.run_bind, Sem.run_pure, Result.andThen_ok, List.map_toArray, List.map_cons, List.map_nil, hs, hxv, hr]
    exact h v' w' hA)

theorem flow_deal_at {ops : Array Oper} {Q : Exit → Act → World → Prop} {S : World → Prop} {i : Nat} {σ : List (Nat × Bool)} {a : Act} {w : World} (oi : Oper) (sv wv : Value) (g : Nat) (hi : ops[i]? = some oi) (hw : Region.wanted oi (yielded ops a.tmps) = true)
    (p : Operand) (ho : oi.op = .load 37 p) (hp : a.eval p = .pointer (some ⟨g, 0, none⟩)) (hc : ∀ w, S w → w.rangeAt g 0 [sv, wv])
    (h : wpFlow Try.prog ops Q S σ (a.put oi.dst (.agg #[sv, wv])) w) : wpFlow Try.prog ops Q S ((i, true) :: σ) a w :=
  flow_take oi (.agg #[sv, wv]) hi hw (fun w hS => by
    have hl : (Instr.loadAt 37 (.pointer (some ⟨g, 0, none⟩))).run Try.prog w = .ok (.agg #[sv, wv]) w := run_loadAt_mid w g 0 37 [sv, wv] _ (hc w hS) Try.underlying37 rfl (by kernel_rfl)
    unfold execOp
    simp only [ho, hp, Sem.run_bind, Sem.run_pure, hl, Result.andThen_ok]) h
/-- A list that is dealt with in the order O. -/
structure Again (O R : List Req) : Prop where
  len : R.length ≤ 1000
  fits : ∀ r ∈ R, r.fits
  few : ∀ M, IsSet M R → (actR M).length ≤ 19
  ord : ∀ O', ActOrd R O' → O' = O
theorem deal_again {W0 w : World} {ov mv lv : Value} {L : List Off} {M : List Seat} {most : Int} {O R : List Req} (hB : RowKit.Below W0.heap.size W0 w) (hc : CatIn W0 ov mv L M) (lO : O.length ≤ 1000) (h : Again O R) (hr : ReqsIn w lv R) :
    Calls Try.prog 9 #[ov, mv, .int .i64 most, lv] w fun e w' => ∃ sv wv, e = .returned (.agg #[sv, wv]) ∧ DealIn w' (.agg #[sv, wv]) (dealP L M most O) ∧ RowKit.Below w.heap.size w w' := by
  refine (deal_cat 19 sortsB_19 (by omega) ov mv lv L M most R w (hc.below hB) hr (by have := h.len; omega) h.fits h.few).mono ?_
  rintro _ w' ⟨sv, wv, O', rfl, hO, hs, hw, hb⟩
  obtain rfl := h.ord O' hO
  have hl := deal_len (L := L) (met := M) (most := most) O'
  exact ⟨sv, wv, rfl, DealIn.mk' hs hw (by omega) (by omega), hb⟩
theorem same_again {W0 w : World} {x y : Value} {d : Deal} (hB : RowKit.Below W0.heap.size W0 w) (hx : DealIn W0 x d) (hy : DealIn w y d) :
    Calls Try.prog 16 #[x, y] w fun e w' => e = .returned (.bool true) ∧ RowKit.Below w.heap.size w w' := by
  have := same_deal_any x y d d w (hx.below hB) hy
  rwa [sameD_refl] at this
theorem or_keep {W0 w w' : World} {tv av : Value} {T C : List Req} (h : RowKit.Below W0.heap.size W0 w ∧ ReqsIn w tv T ∧ ReqsIn w av C) (hb : RowKit.Below w.heap.size w w') : RowKit.Below W0.heap.size W0 w' ∧ ReqsIn w' tv T ∧ ReqsIn w' av C := ⟨below_next h.1 hb, h.2.1.below hb, h.2.2.below hb⟩

set_option maxHeartbeats 4000000 in
set_option maxRecDepth 100000 in
theorem ord_r5s {s0 s1 s2 s3 s4 s5 s6 s7 s8 s10 s12 s13 s14 s15 s16 s17 s18 s19 s20 s21 s22 s23 s24 s25 s26 s27 s28 s29 s30 s31 s32 s33 s34 s35 s36 s37 s38 s39 s40 s41 s42 s43 s44 s45 s46 s47 s48 s49 s50 s51 s52 s53 s54 s55 s56 s57 s58 s59 s60 s61 s62 s63 s64 s65 s66 s67 s68 s69 s70 s71 s72 s73 : Value} (b o c k : Nat) (A : List Req) (W : World) (Q : Exit → Act → World → Prop) (hV : ReqsIn W (.slice (some ⟨b, o, none⟩) A.length c) A) (hk : k ≤ A.length) (hlc : A.length ≤ c) (hlen : A.length ≤ 100000)
    (hQ : ∀ (u12 u33 u34 u35 u36 u37 u38 u39 u40 u41 : Value) (wx : World), RowKit.Below W.heap.size W wx → wx.ownsRow W.heap.size 35 9 u12 (A.drop k ++ A.take k).length (reqCells (A.drop k ++ A.take k)) → Q .normal ⟨List.toArray (s0 :: s1 :: s2 :: s3 :: s4 :: s5 :: s6 :: s7 :: s8 :: .slice (some ⟨b, o, none⟩) A.length c :: s10 :: .int .i64 k :: u12 :: s13 :: s14 :: s15 :: s16 :: s17 :: s18 :: s19 :: s20 :: s21 :: s22 :: s23 :: s24 :: s25 :: s26 :: s27 :: s28 :: s29 :: s30 :: s31 :: s32 :: u33 :: u34 :: u35 :: u36 :: u37 :: u38 :: u39 :: u40 :: u41 :: s42 :: s43 :: s44 :: s45 :: s46 :: s47 :: s48 :: s49 :: s50 :: s51 :: s52 :: s53 :: s54 :: s55 :: s56 :: s57 :: s58 :: s59 :: s60 :: s61 :: s62 :: s63 :: s64 :: s65 :: s66 :: s67 :: s68 :: s69 :: s70 :: s71 :: s72 :: s73 :: []), []⟩ wx) :
    (regionOf Try.f4 5).wp Try.prog Q ⟨List.toArray (s0 :: s1 :: s2 :: s3 :: s4 :: s5 :: s6 :: s7 :: s8 :: .slice (some ⟨b, o, none⟩) A.length c :: s10 :: .int .i64 k :: s12 :: s13 :: s14 :: s15 :: s16 :: s17 :: s18 :: s19 :: s20 :: s21 :: s22 :: s23 :: s24 :: s25 :: s26 :: s27 :: s28 :: s29 :: s30 :: s31 :: s32 :: s33 :: s34 :: s35 :: s36 :: s37 :: s38 :: s39 :: s40 :: s41 :: s42 :: s43 :: s44 :: s45 :: s46 :: s47 :: s48 :: s49 :: s50 :: s51 :: s52 :: s53 :: s54 :: s55 :: s56 :: s57 :: s58 :: s59 :: s60 :: s61 :: s62 :: s63 :: s64 :: s65 :: s66 :: s67 :: s68 :: s69 :: s70 :: s71 :: s72 :: s73 :: []), []⟩ W := by
  refine of_onlyN (K := Q .normal) ?_ (fun _ _ h => h)
  generalize Q .normal = K at hQ ⊢
  have HQ := Lib.hid hQ; clear hQ
  conv => arg 2; whnf
  have hT : ReqsIn W (.slice (some ⟨b, o, none⟩) k c) (A.take k) := hV.take k hk
  have hZ : ReqsIn W (.slice (if c = k then some ⟨b, o, none⟩ else some ⟨b, o + k * 9, none⟩) (A.length - k) (c - k)) (A.drop k) := (by by_cases h : c = k; (rw [if_pos h]; exact hV.drop k hk o (.inl (by omega))); (rw [if_neg h]; exact hV.drop k hk _ (.inr rfl)))
  have hkn : (k : Int) ≤ (A.length : Int) := by omega
  have hkc : (k : Int) ≤ (c : Int) := by omega
  have lt1 : (A.take k).length ≤ 100000 := by simp; omega
  have lt2 : (A.drop k).length ≤ 100000 := by simp; omega
  have hS0 : RowKit.Below W.heap.size W W.drew := (Below.refl _ _).drew
  have hown0 := own_empty_at W.drew W.heap.size W.heap.size rfl (Nat.le_refl _)
  refine of_onlyN ?_ (fun _ _ h => h)
  refine wp_region_flow (S := fun w' => RowKit.Below W.heap.size W w') [(1, true), (2, true), (3, true), (5, true), (6, true), (7, true), (0, false), (4, false), (8, false), (9, true)] (by kernel_rfl) (by kernel_rfl) (by kernel_rfl) (by decide) (hS0) ?_
  have hS := hS0
  refine flow_take ⟨some 34, _, _, _, _, _⟩ ?_ rfl (by rfl) ?_ ?_
  rotate_left 1
  · intro w hSw; (try dsimp only at hSw); go_simp; (try with_reducible rfl)
  simp only [Act.put, List.setIfInBounds_toArray, List.set_cons_zero, List.set_cons_succ]
  refine flow_take ⟨some 35, _, _, _, _, _⟩ ?_ rfl (by rfl) ?_ ?_
  rotate_left 1
  · intro w hSw; (try dsimp only at hSw); go_simp; (try with_reducible rfl)
  simp only [Act.put, List.setIfInBounds_toArray, List.set_cons_zero, List.set_cons_succ]
  refine flow_take ⟨some 36, _, _, _, _, _⟩ ?_ rfl (by rfl) ?_ ?_
  rotate_left 1
  · intro w hSw; (try dsimp only at hSw); go_simp; (try with_reducible rfl)
  simp only [Act.put, List.setIfInBounds_toArray, List.set_cons_zero, List.set_cons_succ]
  refine flow_take ⟨some 38, _, _, _, _, _⟩ ?_ rfl (by rfl) ?_ ?_
  rotate_left 1
  · intro w hSw; (try dsimp only at hSw); go_simp; (try with_reducible rfl)
  simp only [Act.put, List.setIfInBounds_toArray, List.set_cons_zero, List.set_cons_succ]
  refine flow_take ⟨some 39, _, _, _, _, _⟩ ?_ rfl (by rfl) ?_ ?_
  rotate_left 1
  · intro w hSw; (try dsimp only at hSw); go_simp; (try with_reducible rfl)
  simp only [Act.put, List.setIfInBounds_toArray, List.set_cons_zero, List.set_cons_succ]
  refine flow_take ⟨some 40, _, _, _, _, _⟩ ?_ rfl (by rfl) ?_ ?_
  rotate_left 1
  · intro w hSw; (try dsimp only at hSw); go_simp; (try with_reducible rfl)
  simp only [Act.put, List.setIfInBounds_toArray, List.set_cons_zero, List.set_cons_succ]
  refine flow_run ⟨some 33, _, _, _, _, _⟩ (.slice (some ⟨W.heap.size, 0, none⟩) 0 0) (W.drew.alloc (.cells #[] 35)) rfl (by rfl) (by go_simp) (below_alloc1 _ _).drew ?_; replace hS : RowKit.Below W.heap.size W (W.drew.alloc (.cells #[] 35)) := (below_alloc1 W _).drew
  simp only [Act.put, List.setIfInBounds_toArray, List.set_cons_zero, List.set_cons_succ]
  refine flow_append_reqs ⟨some 37, _, _, _, _, _⟩ rfl (by rfl) (.tmp 33) (.tmp 36) (by rfl) W.heap.size _ _ [] (A.drop k) (by rfl) (by rfl) hown0 (hZ.below hS) (by simp only [List.length_nil]; omega) hS.size ?_; intro v1 w1 hA1; replace hS : RowKit.Below W.heap.size W w1 := hS.grown hA1.grown hS.size (fun q hq => (hown0.lt q hq).1); refine ⟨hS, ?_⟩
  (try simp only [Act.put, List.setIfInBounds_toArray, List.set_cons_zero, List.set_cons_succ])
  refine flow_append_reqs ⟨some 41, _, _, _, _, _⟩ rfl (by rfl) (.tmp 37) (.tmp 40) (by rfl) W.heap.size _ _ ([] ++ (A.drop k)) (A.take k) (by rfl) (by rfl) hA1.own (hT.below hS) (by simp only [List.nil_append]; omega) hS.size ?_; intro v2 w2 hA2; replace hS : RowKit.Below W.heap.size W w2 := hS.grown hA2.grown hS.size (fun q hq => (hA1.own.lt q hq).1); refine ⟨hS, ?_⟩
  (try simp only [Act.put, List.setIfInBounds_toArray, List.set_cons_zero, List.set_cons_succ])
  refine flow_take ⟨some 12, _, _, _, _, _⟩ ?_ rfl (by rfl) ?_ ?_
  rotate_left 1
  · intro w hSw; (try dsimp only at hSw); go_simp; (try with_reducible rfl)
  simp only [Act.put, List.setIfInBounds_toArray, List.set_cons_zero, List.set_cons_succ]
  simp only [wpFlow, OnlyN]
  exact HQ.out _ _ _ _ _ _ _ _ _ _ _ hS (by have h := hA2.own; rw [List.nil_append] at h; exact h)

set_option maxHeartbeats 4000000 in
set_option maxRecDepth 100000 in
theorem ord_r5n {s0 s1 s2 s3 s4 s5 s6 s7 s8 s10 s12 s13 s14 s15 s16 s17 s18 s19 s20 s21 s22 s23 s24 s25 s26 s27 s28 s29 s30 s31 s32 s33 s34 s35 s36 s37 s38 s39 s40 s41 s42 s43 s44 s45 s46 s47 s48 s49 s50 s51 s52 s53 s54 s55 s56 s57 s58 s59 s60 s61 s62 s63 s64 s65 s66 s67 s68 s69 s70 s71 s72 s73 : Value}  (W : World) (Q : Exit → Act → World → Prop) 
    (hQ : ∀ (u12 u33 u34 u35 u36 u37 u38 u39 u40 u41 : Value) (wx : World), RowKit.Below W.heap.size W wx → wx.ownsRow W.heap.size 35 9 u12 (([] : List Req) ++ ([] : List Req)).length (reqCells (([] : List Req) ++ ([] : List Req))) → Q .normal ⟨List.toArray (s0 :: s1 :: s2 :: s3 :: s4 :: s5 :: s6 :: s7 :: s8 :: .slice none 0 0 :: s10 :: .int .i64 0 :: u12 :: s13 :: s14 :: s15 :: s16 :: s17 :: s18 :: s19 :: s20 :: s21 :: s22 :: s23 :: s24 :: s25 :: s26 :: s27 :: s28 :: s29 :: s30 :: s31 :: s32 :: u33 :: u34 :: u35 :: u36 :: u37 :: u38 :: u39 :: u40 :: u41 :: s42 :: s43 :: s44 :: s45 :: s46 :: s47 :: s48 :: s49 :: s50 :: s51 :: s52 :: s53 :: s54 :: s55 :: s56 :: s57 :: s58 :: s59 :: s60 :: s61 :: s62 :: s63 :: s64 :: s65 :: s66 :: s67 :: s68 :: s69 :: s70 :: s71 :: s72 :: s73 :: []), []⟩ wx) :
    (regionOf Try.f4 5).wp Try.prog Q ⟨List.toArray (s0 :: s1 :: s2 :: s3 :: s4 :: s5 :: s6 :: s7 :: s8 :: .slice none 0 0 :: s10 :: .int .i64 0 :: s12 :: s13 :: s14 :: s15 :: s16 :: s17 :: s18 :: s19 :: s20 :: s21 :: s22 :: s23 :: s24 :: s25 :: s26 :: s27 :: s28 :: s29 :: s30 :: s31 :: s32 :: s33 :: s34 :: s35 :: s36 :: s37 :: s38 :: s39 :: s40 :: s41 :: s42 :: s43 :: s44 :: s45 :: s46 :: s47 :: s48 :: s49 :: s50 :: s51 :: s52 :: s53 :: s54 :: s55 :: s56 :: s57 :: s58 :: s59 :: s60 :: s61 :: s62 :: s63 :: s64 :: s65 :: s66 :: s67 :: s68 :: s69 :: s70 :: s71 :: s72 :: s73 :: []), []⟩ W := by
  refine of_onlyN (K := Q .normal) ?_ (fun _ _ h => h)
  generalize Q .normal = K at hQ ⊢
  have HQ := Lib.hid hQ; clear hQ
  conv => arg 2; whnf
  have hT : ReqsIn W (.slice none 0 0) (([] : List Req)) := .inl ⟨rfl, rfl⟩
  have hZ : ReqsIn W (.slice none 0 0) (([] : List Req)) := .inl ⟨rfl, rfl⟩
  have lt1 : ([] : List Req).length ≤ 100000 := by decide
  have hS0 : RowKit.Below W.heap.size W W.drew := (Below.refl _ _).drew
  have hown0 := own_empty_at W.drew W.heap.size W.heap.size rfl (Nat.le_refl _)
  refine of_onlyN ?_ (fun _ _ h => h)
  refine wp_region_flow (S := fun w' => RowKit.Below W.heap.size W w') [(1, true), (2, true), (3, true), (5, true), (6, true), (7, true), (0, false), (4, false), (8, false), (9, true)] (by kernel_rfl) (by kernel_rfl) (by kernel_rfl) (by decide) (hS0) ?_
  have hS := hS0
  refine flow_take ⟨some 34, _, _, _, _, _⟩ ?_ rfl (by rfl) ?_ ?_
  rotate_left 1
  · intro w hSw; (try dsimp only at hSw); go_simp; (try with_reducible rfl)
  simp only [Act.put, List.setIfInBounds_toArray, List.set_cons_zero, List.set_cons_succ]
  refine flow_take ⟨some 35, _, _, _, _, _⟩ ?_ rfl (by rfl) ?_ ?_
  rotate_left 1
  · intro w hSw; (try dsimp only at hSw); go_simp; (try with_reducible rfl)
  simp only [Act.put, List.setIfInBounds_toArray, List.set_cons_zero, List.set_cons_succ]
  refine flow_take ⟨some 36, _, _, _, _, _⟩ ?_ rfl (by rfl) ?_ ?_
  rotate_left 1
  · intro w hSw; (try dsimp only at hSw); go_simp; (try with_reducible rfl)
  simp only [Act.put, List.setIfInBounds_toArray, List.set_cons_zero, List.set_cons_succ]
  refine flow_take ⟨some 38, _, _, _, _, _⟩ ?_ rfl (by rfl) ?_ ?_
  rotate_left 1
  · intro w hSw; (try dsimp only at hSw); go_simp; (try with_reducible rfl)
  simp only [Act.put, List.setIfInBounds_toArray, List.set_cons_zero, List.set_cons_succ]
  refine flow_take ⟨some 39, _, _, _, _, _⟩ ?_ rfl (by rfl) ?_ ?_
  rotate_left 1
  · intro w hSw; (try dsimp only at hSw); go_simp; (try with_reducible rfl)
  simp only [Act.put, List.setIfInBounds_toArray, List.set_cons_zero, List.set_cons_succ]
  refine flow_take ⟨some 40, _, _, _, _, _⟩ ?_ rfl (by rfl) ?_ ?_
  rotate_left 1
  · intro w hSw; (try dsimp only at hSw); go_simp; (try with_reducible rfl)
  simp only [Act.put, List.setIfInBounds_toArray, List.set_cons_zero, List.set_cons_succ]
  refine flow_run ⟨some 33, _, _, _, _, _⟩ (.slice (some ⟨W.heap.size, 0, none⟩) 0 0) (W.drew.alloc (.cells #[] 35)) rfl (by rfl) (by go_simp) (below_alloc1 _ _).drew ?_; replace hS : RowKit.Below W.heap.size W (W.drew.alloc (.cells #[] 35)) := (below_alloc1 W _).drew
  simp only [Act.put, List.setIfInBounds_toArray, List.set_cons_zero, List.set_cons_succ]
  refine flow_append_reqs ⟨some 37, _, _, _, _, _⟩ rfl (by rfl) (.tmp 33) (.tmp 36) (by rfl) W.heap.size _ _ [] (([] : List Req)) (by rfl) (by rfl) hown0 (hZ.below hS) (by simp only [List.length_nil]; omega) hS.size ?_; intro v1 w1 hA1; replace hS : RowKit.Below W.heap.size W w1 := hS.grown hA1.grown hS.size (fun q hq => (hown0.lt q hq).1); refine ⟨hS, ?_⟩
  (try simp only [Act.put, List.setIfInBounds_toArray, List.set_cons_zero, List.set_cons_succ])
  refine flow_append_reqs ⟨some 41, _, _, _, _, _⟩ rfl (by rfl) (.tmp 37) (.tmp 40) (by rfl) W.heap.size _ _ ([] ++ (([] : List Req))) (([] : List Req)) (by rfl) (by rfl) hA1.own (hT.below hS) (by simp only [List.nil_append]; omega) hS.size ?_; intro v2 w2 hA2; replace hS : RowKit.Below W.heap.size W w2 := hS.grown hA2.grown hS.size (fun q hq => (hA1.own.lt q hq).1); refine ⟨hS, ?_⟩
  (try simp only [Act.put, List.setIfInBounds_toArray, List.set_cons_zero, List.set_cons_succ])
  refine flow_take ⟨some 12, _, _, _, _, _⟩ ?_ rfl (by rfl) ?_ ?_
  rotate_left 1
  · intro w hSw; (try dsimp only at hSw); go_simp; (try with_reducible rfl)
  simp only [Act.put, List.setIfInBounds_toArray, List.set_cons_zero, List.set_cons_succ]
  simp only [wpFlow, OnlyN]
  exact HQ.out _ _ _ _ _ _ _ _ _ _ _ hS (by have h := hA2.own; rw [List.nil_append] at h; exact h)

theorem ord_r5_form {w : World} {va : Value} {A : List Req} (h : ReqsIn w va A) : (va = .slice none 0 0 ∧ A = []) ∨ ∃ b o c, va = .slice (some ⟨b, o, none⟩) A.length c ∧ A.length ≤ c := by
  rcases h with h | ⟨b, o, c, h1, h2, _⟩
  · exact .inl h
  · exact .inr ⟨b, o, c, h1, h2⟩

set_option maxHeartbeats 4000000 in
set_option maxRecDepth 100000 in
theorem ord_r5 {s0 s1 s2 s3 s4 s5 s6 s7 s8 s10 s12 s13 s14 s15 s16 s17 s18 s19 s20 s21 s22 s23 s24 s25 s26 s27 s28 s29 s30 s31 s32 s33 s34 s35 s36 s37 s38 s39 s40 s41 s42 s43 s44 s45 s46 s47 s48 s49 s50 s51 s52 s53 s54 s55 s56 s57 s58 s59 s60 s61 s62 s63 s64 s65 s66 s67 s68 s69 s70 s71 s72 s73 : Value} (sa : Option Addr) (ca k : Nat) (A : List Req) (W : World) (Q : Exit → Act → World → Prop) (hV : ReqsIn W (.slice sa A.length ca) A) (hk : k ≤ A.length) (hlen : A.length ≤ 100000)
    (hQ : ∀ (u12 u33 u34 u35 u36 u37 u38 u39 u40 u41 : Value) (wx : World), RowKit.Below W.heap.size W wx → wx.ownsRow W.heap.size 35 9 u12 (A.drop k ++ A.take k).length (reqCells (A.drop k ++ A.take k)) → Q .normal ⟨List.toArray (s0 :: s1 :: s2 :: s3 :: s4 :: s5 :: s6 :: s7 :: s8 :: .slice sa A.length ca :: s10 :: .int .i64 k :: u12 :: s13 :: s14 :: s15 :: s16 :: s17 :: s18 :: s19 :: s20 :: s21 :: s22 :: s23 :: s24 :: s25 :: s26 :: s27 :: s28 :: s29 :: s30 :: s31 :: s32 :: u33 :: u34 :: u35 :: u36 :: u37 :: u38 :: u39 :: u40 :: u41 :: s42 :: s43 :: s44 :: s45 :: s46 :: s47 :: s48 :: s49 :: s50 :: s51 :: s52 :: s53 :: s54 :: s55 :: s56 :: s57 :: s58 :: s59 :: s60 :: s61 :: s62 :: s63 :: s64 :: s65 :: s66 :: s67 :: s68 :: s69 :: s70 :: s71 :: s72 :: s73 :: []), []⟩ wx) :
    (regionOf Try.f4 5).wp Try.prog Q ⟨List.toArray (s0 :: s1 :: s2 :: s3 :: s4 :: s5 :: s6 :: s7 :: s8 :: .slice sa A.length ca :: s10 :: .int .i64 k :: s12 :: s13 :: s14 :: s15 :: s16 :: s17 :: s18 :: s19 :: s20 :: s21 :: s22 :: s23 :: s24 :: s25 :: s26 :: s27 :: s28 :: s29 :: s30 :: s31 :: s32 :: s33 :: s34 :: s35 :: s36 :: s37 :: s38 :: s39 :: s40 :: s41 :: s42 :: s43 :: s44 :: s45 :: s46 :: s47 :: s48 :: s49 :: s50 :: s51 :: s52 :: s53 :: s54 :: s55 :: s56 :: s57 :: s58 :: s59 :: s60 :: s61 :: s62 :: s63 :: s64 :: s65 :: s66 :: s67 :: s68 :: s69 :: s70 :: s71 :: s72 :: s73 :: []), []⟩ W := by
  rcases ord_r5_form hV with ⟨e, rfl⟩ | ⟨b, o, c, e, hlc⟩
  · injection e with e1 e2 e3
    subst e1 e3
    obtain rfl : k = 0 := by simpa using hk
    exact ord_r5n W Q hQ
  · injection e with e1 e2 e3
    subst e1 e3
    exact ord_r5s b o ca k A W Q hV hk hlc hlen hQ

theorem or_at {W0 w : World} {g : Nat} {sv wv : Value} (h : g < W0.heap.size ∧ ∀ j, W0.cell? ⟨g, j, none⟩ = (#[sv, wv] : Array Value)[j]?) (hB : RowKit.Below W0.heap.size W0 w) : w.rangeAt g 0 [sv, wv] := by
  intro j u hj
  rw [Nat.zero_add, hB.cell (p := ⟨g, j, none⟩) h.1, h.2 j]
  simpa using hj

set_option maxHeartbeats 4000000 in
set_option maxRecDepth 100000 in
theorem ord_r7 {s0 s1 s2 s3 s4 s11 s14 s15 s16 s17 s18 s19 s20 s21 s22 s23 s24 s25 s26 s27 s28 s29 s30 s31 s32 s33 s34 s35 s36 s37 s38 s39 s40 s41 s42 s43 s44 s45 s46 s47 s48 s49 s50 s51 s52 s53 s54 s55 s56 s57 s58 s59 s60 s61 s62 s63 s64 s65 s66 s67 s68 s69 s70 s71 s72 s73 : Value} (g : Nat) (ov mv sv wv tv lv av : Value) (L : List Off) (M : List Seat) (most : Int) (O A T C : List Req) (W0 : World) (W : World) (Q : Exit → Act → World → Prop) (hB : RowKit.Below W0.heap.size W0 W) (hc : CatIn W0 ov mv L M) (hcell : g < W0.heap.size ∧ ∀ j, W0.cell? ⟨g, j, none⟩ = (#[sv, wv] : Array Value)[j]?) (hd : DealIn W0 (.agg #[sv, wv]) (dealP L M most O)) (hl : ReqsIn W0 lv A) (hown : W.ownsRow W0.heap.size 35 9 tv T.length (reqCells T)) (ha : ReqsIn W av C) (hne : av.ownBlock = none ∨ av.ownBlock ≠ tv.ownBlock) (lO : O.length ≤ 1000) (lA : A.length ≤ 1000) (hT : Again O T) (hTA : Again O (T ++ A)) (hC : Again O C)
    (hQ : ∀ (u44 u45 u46 u47 u48 u49 u50 u51 u52 u53 u54 u55 u56 u57 u58 u59 u60 u61 u62 u63 u64 u65 u66 u67 u68 u69 u70 u71 u72 u73 : Value) (wx : World), RowKit.Below W0.heap.size W0 wx → Q .normal ⟨List.toArray (s0 :: s1 :: s2 :: s3 :: .bool true :: .bool true :: ov :: mv :: .int .i64 most :: lv :: .pointer (some ⟨g, 0, none⟩) :: s11 :: tv :: av :: s14 :: s15 :: s16 :: s17 :: s18 :: s19 :: s20 :: s21 :: s22 :: s23 :: s24 :: s25 :: s26 :: s27 :: s28 :: s29 :: s30 :: s31 :: s32 :: s33 :: s34 :: s35 :: s36 :: s37 :: s38 :: s39 :: s40 :: s41 :: s42 :: s43 :: u44 :: u45 :: u46 :: u47 :: u48 :: u49 :: u50 :: u51 :: u52 :: u53 :: u54 :: u55 :: u56 :: u57 :: u58 :: u59 :: u60 :: u61 :: u62 :: u63 :: u64 :: u65 :: u66 :: u67 :: u68 :: u69 :: u70 :: u71 :: u72 :: u73 :: []), []⟩ wx) :
    (regionOf Try.f4 7).wp Try.prog Q ⟨List.toArray (s0 :: s1 :: s2 :: s3 :: s4 :: .bool true :: ov :: mv :: .int .i64 most :: lv :: .pointer (some ⟨g, 0, none⟩) :: s11 :: tv :: av :: s14 :: s15 :: s16 :: s17 :: s18 :: s19 :: s20 :: s21 :: s22 :: s23 :: s24 :: s25 :: s26 :: s27 :: s28 :: s29 :: s30 :: s31 :: s32 :: s33 :: s34 :: s35 :: s36 :: s37 :: s38 :: s39 :: s40 :: s41 :: s42 :: s43 :: s44 :: s45 :: s46 :: s47 :: s48 :: s49 :: s50 :: s51 :: s52 :: s53 :: s54 :: s55 :: s56 :: s57 :: s58 :: s59 :: s60 :: s61 :: s62 :: s63 :: s64 :: s65 :: s66 :: s67 :: s68 :: s69 :: s70 :: s71 :: s72 :: s73 :: []), []⟩ W := by
  refine of_onlyN (K := Q .normal) ?_ (fun _ _ h => h)
  generalize Q .normal = K at hQ ⊢
  have HQ := Lib.hid hQ; clear hQ
  conv => arg 2; whnf
  have HC := Lib.hid hc
  have HD := Lib.hid hd
  have HL := Lib.hid hl
  have HT := Lib.hid hT
  have HTA := Lib.hid hTA
  have HCC := Lib.hid hC
  have lT := hT.len
  clear hc hd hl hT hTA hC
  have own : W.drew.ownsRow W0.heap.size 35 9 tv T.length (reqCells T) := hown
  have hS0 : RowKit.Below W0.heap.size W0 W.drew ∧ ReqsIn W.drew tv T ∧ ReqsIn W.drew av C := ⟨hB.drew, reqsIn_own own, ha⟩
  refine of_onlyN ?_ (fun _ _ h => h)
  refine wp_region_flow (S := fun w' => RowKit.Below W0.heap.size W0 w' ∧ ReqsIn w' tv T ∧ ReqsIn w' av C) [(0, true), (1, true), (2, true), (3, true), (4, true), (5, true), (6, true), (7, false), (8, false), (9, true), (10, true), (11, true), (12, true), (13, true), (14, true), (15, true), (16, true), (17, false), (18, false), (19, false), (20, true), (21, true), (22, true), (23, true), (24, true), (25, true), (26, true), (27, false), (28, false), (29, true), (30, true)] (by kernel_rfl) (by kernel_rfl) (by kernel_rfl) (by decide) (hS0) ?_
  have hS := hS0
  refine flow_take ⟨some 44, _, _, _, _, _⟩ ?_ rfl (by rfl) ?_ ?_
  rotate_left 1
  · intro w hSw; (try dsimp only at hSw); go_simp; (try with_reducible rfl)
  simp only [Act.put, List.setIfInBounds_toArray, List.set_cons_zero, List.set_cons_succ]
  refine flow_take ⟨some 45, _, _, _, _, _⟩ ?_ rfl (by rfl) ?_ ?_
  rotate_left 1
  · intro w hSw; (try dsimp only at hSw); go_simp; (try with_reducible rfl)
  simp only [Act.put, List.setIfInBounds_toArray, List.set_cons_zero, List.set_cons_succ]
  refine flow_deal_at ⟨some 46, _, _, _, _, _⟩ sv wv g rfl (by rfl) (.tmp 10) (by rfl) (by rfl) (fun w hS => or_at hcell hS.1) ?_
  (try simp only [Act.put, List.setIfInBounds_toArray, List.set_cons_zero, List.set_cons_succ])
  refine flow_take ⟨some 47, _, _, _, _, _⟩ ?_ rfl (by rfl) ?_ ?_
  rotate_left 1
  · intro w hSw; (try dsimp only at hSw); go_simp; (try with_reducible rfl)
  simp only [Act.put, List.setIfInBounds_toArray, List.set_cons_zero, List.set_cons_succ]
  refine flow_take ⟨some 48, _, _, _, _, _⟩ ?_ rfl (by rfl) ?_ ?_
  rotate_left 1
  · intro w hSw; (try dsimp only at hSw); go_simp; (try with_reducible rfl)
  simp only [Act.put, List.setIfInBounds_toArray, List.set_cons_zero, List.set_cons_succ]
  refine flow_take ⟨some 49, _, _, _, _, _⟩ ?_ rfl (by rfl) ?_ ?_
  rotate_left 1
  · intro w hSw; (try dsimp only at hSw); go_simp; (try with_reducible rfl)
  simp only [Act.put, List.setIfInBounds_toArray, List.set_cons_zero, List.set_cons_succ]
  refine flow_take ⟨some 50, _, _, _, _, _⟩ ?_ rfl (by rfl) ?_ ?_
  rotate_left 1
  · intro w hSw; (try dsimp only at hSw); go_simp; (try with_reducible rfl)
  simp only [Act.put, List.setIfInBounds_toArray, List.set_cons_zero, List.set_cons_succ]
  (first | (refine flow_call ⟨some 51, _, _, _, _, _⟩ rfl (by rfl) 9 _ _ (by rfl) _ (by rfl) Try.call9 (deal_again hS.1 HC.out lO HT.out hS.2.1) ?_; rintro x wn ⟨sv1, wv1, rfl, hd1, hb⟩; replace hS := or_keep hS hb; replace own := rows_below own hb; refine ⟨_, rfl, hS, ?_⟩; (try clear hb)) | (refine flow_call ⟨some 51, _, _, _, _, _⟩ rfl (by rfl) 9 _ _ (by rfl) _ (by rfl) Try.call9 (deal_again hS.1 HC.out lO HTA.out hr1) ?_; rintro x wn ⟨sv1, wv1, rfl, hd1, hb⟩; replace hS := or_keep hS hb; refine ⟨_, rfl, hS, ?_⟩; (try clear hb)) | (refine flow_call ⟨some 51, _, _, _, _, _⟩ rfl (by rfl) 9 _ _ (by rfl) _ (by rfl) Try.call9 (deal_again hS.1 HC.out lO HCC.out hS.2.2) ?_; rintro x wn ⟨sv1, wv1, rfl, hd1, hb⟩; replace hS := or_keep hS hb; refine ⟨_, rfl, hS, ?_⟩; (try clear hb)))
  simp only [Act.put, List.setIfInBounds_toArray, List.set_cons_zero, List.set_cons_succ]
  refine flow_call ⟨some 52, _, _, _, _, _⟩ rfl (by rfl) 16 _ _ (by rfl) _ (by rfl) Try.call16 (same_again hS.1 HD.out hd1) ?_; rintro x wn ⟨rfl, hb⟩; replace hS := or_keep hS hb; (try replace own := rows_below own hb); refine ⟨_, rfl, hS, ?_⟩; (try clear hb)
  simp only [Act.put, List.setIfInBounds_toArray, List.set_cons_zero, List.set_cons_succ]
  refine flow_take ⟨some 53, _, _, _, _, _⟩ ?_ rfl (by rfl) ?_ ?_
  rotate_left 1
  · intro w hSw; (try dsimp only at hSw); go_simp; (try with_reducible rfl)
  simp only [Act.put, List.setIfInBounds_toArray, List.set_cons_zero, List.set_cons_succ]
  refine flow_take ⟨some 54, _, _, _, _, _⟩ ?_ rfl (by rfl) ?_ ?_
  rotate_left 1
  · intro w hSw; (try dsimp only at hSw); go_simp; (try with_reducible rfl)
  simp only [Act.put, List.setIfInBounds_toArray, List.set_cons_zero, List.set_cons_succ]
  refine flow_deal_at ⟨some 55, _, _, _, _, _⟩ sv wv g rfl (by rfl) (.tmp 10) (by rfl) (by rfl) (fun w hS => or_at hcell hS.1) ?_
  (try simp only [Act.put, List.setIfInBounds_toArray, List.set_cons_zero, List.set_cons_succ])
  refine flow_take ⟨some 56, _, _, _, _, _⟩ ?_ rfl (by rfl) ?_ ?_
  rotate_left 1
  · intro w hSw; (try dsimp only at hSw); go_simp; (try with_reducible rfl)
  simp only [Act.put, List.setIfInBounds_toArray, List.set_cons_zero, List.set_cons_succ]
  refine flow_take ⟨some 57, _, _, _, _, _⟩ ?_ rfl (by rfl) ?_ ?_
  rotate_left 1
  · intro w hSw; (try dsimp only at hSw); go_simp; (try with_reducible rfl)
  simp only [Act.put, List.setIfInBounds_toArray, List.set_cons_zero, List.set_cons_succ]
  refine flow_take ⟨some 58, _, _, _, _, _⟩ ?_ rfl (by rfl) ?_ ?_
  rotate_left 1
  · intro w hSw; (try dsimp only at hSw); go_simp; (try with_reducible rfl)
  simp only [Act.put, List.setIfInBounds_toArray, List.set_cons_zero, List.set_cons_succ]
  refine flow_take ⟨some 59, _, _, _, _, _⟩ ?_ rfl (by rfl) ?_ ?_
  rotate_left 1
  · intro w hSw; (try dsimp only at hSw); go_simp; (try with_reducible rfl)
  simp only [Act.put, List.setIfInBounds_toArray, List.set_cons_zero, List.set_cons_succ]
  refine flow_take ⟨some 60, _, _, _, _, _⟩ ?_ rfl (by rfl) ?_ ?_
  rotate_left 1
  · intro w hSw; (try dsimp only at hSw); go_simp; (try with_reducible rfl)
  simp only [Act.put, List.setIfInBounds_toArray, List.set_cons_zero, List.set_cons_succ]
  refine flow_append_reqs ⟨some 61, _, _, _, _, _⟩ rfl (by rfl) (.tmp 59) (.tmp 60) (by rfl) W0.heap.size _ _ T A (by rfl) (by rfl) own (HL.out.below hS.1) (by omega) hS.1.size ?_; intro v1 w1 hA1; have hr1 : ReqsIn w1 v1 (T ++ A) := reqsIn_own hA1.own; replace hS : RowKit.Below W0.heap.size W0 w1 ∧ ReqsIn w1 tv T ∧ ReqsIn w1 av C := ⟨hS.1.grown hA1.grown hS.1.size (fun q hq => (own.lt q hq).1), hA1.old, hS.2.2.grown hA1.grown hne⟩; refine ⟨hS, ?_⟩
  (try simp only [Act.put, List.setIfInBounds_toArray, List.set_cons_zero, List.set_cons_succ])
  (first | (refine flow_call ⟨some 62, _, _, _, _, _⟩ rfl (by rfl) 9 _ _ (by rfl) _ (by rfl) Try.call9 (deal_again hS.1 HC.out lO HT.out hS.2.1) ?_; rintro x wn ⟨sv1, wv1, rfl, hd1, hb⟩; replace hS := or_keep hS hb; replace own := rows_below own hb; refine ⟨_, rfl, hS, ?_⟩; (try clear hb)) | (refine flow_call ⟨some 62, _, _, _, _, _⟩ rfl (by rfl) 9 _ _ (by rfl) _ (by rfl) Try.call9 (deal_again hS.1 HC.out lO HTA.out hr1) ?_; rintro x wn ⟨sv1, wv1, rfl, hd1, hb⟩; replace hS := or_keep hS hb; refine ⟨_, rfl, hS, ?_⟩; (try clear hb)) | (refine flow_call ⟨some 62, _, _, _, _, _⟩ rfl (by rfl) 9 _ _ (by rfl) _ (by rfl) Try.call9 (deal_again hS.1 HC.out lO HCC.out hS.2.2) ?_; rintro x wn ⟨sv1, wv1, rfl, hd1, hb⟩; replace hS := or_keep hS hb; refine ⟨_, rfl, hS, ?_⟩; (try clear hb)))
  simp only [Act.put, List.setIfInBounds_toArray, List.set_cons_zero, List.set_cons_succ]
  refine flow_call ⟨some 63, _, _, _, _, _⟩ rfl (by rfl) 16 _ _ (by rfl) _ (by rfl) Try.call16 (same_again hS.1 HD.out hd1) ?_; rintro x wn ⟨rfl, hb⟩; replace hS := or_keep hS hb; (try replace own := rows_below own hb); refine ⟨_, rfl, hS, ?_⟩; (try clear hb)
  simp only [Act.put, List.setIfInBounds_toArray, List.set_cons_zero, List.set_cons_succ]
  refine flow_take ⟨some 64, _, _, _, _, _⟩ ?_ rfl (by rfl) ?_ ?_
  rotate_left 1
  · intro w hSw; (try dsimp only at hSw); go_simp; (try with_reducible rfl)
  simp only [Act.put, List.setIfInBounds_toArray, List.set_cons_zero, List.set_cons_succ]
  refine flow_take ⟨some 65, _, _, _, _, _⟩ ?_ rfl (by rfl) ?_ ?_
  rotate_left 1
  · intro w hSw; (try dsimp only at hSw); go_simp; (try with_reducible rfl)
  simp only [Act.put, List.setIfInBounds_toArray, List.set_cons_zero, List.set_cons_succ]
  refine flow_deal_at ⟨some 66, _, _, _, _, _⟩ sv wv g rfl (by rfl) (.tmp 10) (by rfl) (by rfl) (fun w hS => or_at hcell hS.1) ?_
  (try simp only [Act.put, List.setIfInBounds_toArray, List.set_cons_zero, List.set_cons_succ])
  refine flow_take ⟨some 67, _, _, _, _, _⟩ ?_ rfl (by rfl) ?_ ?_
  rotate_left 1
  · intro w hSw; (try dsimp only at hSw); go_simp; (try with_reducible rfl)
  simp only [Act.put, List.setIfInBounds_toArray, List.set_cons_zero, List.set_cons_succ]
  refine flow_take ⟨some 68, _, _, _, _, _⟩ ?_ rfl (by rfl) ?_ ?_
  rotate_left 1
  · intro w hSw; (try dsimp only at hSw); go_simp; (try with_reducible rfl)
  simp only [Act.put, List.setIfInBounds_toArray, List.set_cons_zero, List.set_cons_succ]
  refine flow_take ⟨some 69, _, _, _, _, _⟩ ?_ rfl (by rfl) ?_ ?_
  rotate_left 1
  · intro w hSw; (try dsimp only at hSw); go_simp; (try with_reducible rfl)
  simp only [Act.put, List.setIfInBounds_toArray, List.set_cons_zero, List.set_cons_succ]
  refine flow_take ⟨some 70, _, _, _, _, _⟩ ?_ rfl (by rfl) ?_ ?_
  rotate_left 1
  · intro w hSw; (try dsimp only at hSw); go_simp; (try with_reducible rfl)
  simp only [Act.put, List.setIfInBounds_toArray, List.set_cons_zero, List.set_cons_succ]
  (first | (refine flow_call ⟨some 71, _, _, _, _, _⟩ rfl (by rfl) 9 _ _ (by rfl) _ (by rfl) Try.call9 (deal_again hS.1 HC.out lO HT.out hS.2.1) ?_; rintro x wn ⟨sv1, wv1, rfl, hd1, hb⟩; replace hS := or_keep hS hb; replace own := rows_below own hb; refine ⟨_, rfl, hS, ?_⟩; (try clear hb)) | (refine flow_call ⟨some 71, _, _, _, _, _⟩ rfl (by rfl) 9 _ _ (by rfl) _ (by rfl) Try.call9 (deal_again hS.1 HC.out lO HTA.out hr1) ?_; rintro x wn ⟨sv1, wv1, rfl, hd1, hb⟩; replace hS := or_keep hS hb; refine ⟨_, rfl, hS, ?_⟩; (try clear hb)) | (refine flow_call ⟨some 71, _, _, _, _, _⟩ rfl (by rfl) 9 _ _ (by rfl) _ (by rfl) Try.call9 (deal_again hS.1 HC.out lO HCC.out hS.2.2) ?_; rintro x wn ⟨sv1, wv1, rfl, hd1, hb⟩; replace hS := or_keep hS hb; refine ⟨_, rfl, hS, ?_⟩; (try clear hb)))
  simp only [Act.put, List.setIfInBounds_toArray, List.set_cons_zero, List.set_cons_succ]
  refine flow_call ⟨some 72, _, _, _, _, _⟩ rfl (by rfl) 16 _ _ (by rfl) _ (by rfl) Try.call16 (same_again hS.1 HD.out hd1) ?_; rintro x wn ⟨rfl, hb⟩; replace hS := or_keep hS hb; (try replace own := rows_below own hb); refine ⟨_, rfl, hS, ?_⟩; (try clear hb)
  simp only [Act.put, List.setIfInBounds_toArray, List.set_cons_zero, List.set_cons_succ]
  refine flow_take ⟨some 73, _, _, _, _, _⟩ ?_ rfl (by rfl) ?_ ?_
  rotate_left 1
  · intro w hSw; (try dsimp only at hSw); go_simp; (try with_reducible rfl)
  simp only [Act.put, List.setIfInBounds_toArray, List.set_cons_zero, List.set_cons_succ]
  refine flow_take ⟨some 4, _, _, _, _, _⟩ ?_ rfl (by rfl) ?_ ?_
  rotate_left 1
  · intro w hSw; (try dsimp only at hSw); go_simp; (try with_reducible rfl)
  simp only [Act.put, List.setIfInBounds_toArray, List.set_cons_zero, List.set_cons_succ]
  simp only [wpFlow, OnlyN]
  exact HQ.out _ _ _ _ _ _ _ _ _ _ _ _ _ _ _ _ _ _ _ _ _ _ _ _ _ _ _ _ _ _ _ hS.1

end Go.Proofs.Ytbihaoadgcckhaa
