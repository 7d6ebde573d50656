/- The law RequestSets: encodings are one to one; two regions as pieces. -/
import Derived.Test.YtanmmooflhomoaaDoorRqSan
import Derived.Test.YtanmmooflhomoaaDoorRqPutR
import Derived.Test.YtanmmooflhomoaaDoorRqLs
namespace Go.Proofs.YtanmmooflhomoaaDoor
open Go Go.Proofs Go.RowKit Go.Sort Go.Lib
attribute [local go_sem] Req.cells

def dval (l : List UInt8) : Nat := l.foldl (fun a c => 10 * a + (c.toNat - 48)) 0
theorem dval_snoc (l : List UInt8) (c : UInt8) : dval (l ++ [c]) = 10 * dval l + (c.toNat - 48) := by simp [dval, List.foldl_append]
theorem u8_digit {d : Nat} (h : d < 10) : (UInt8.ofNat (48 + d)).toNat = 48 + d := by
  rw [UInt8.toNat_ofNat']; omega
theorem dval_dec (u : Nat) : dval (decDigits u) = u := by
  induction u using Nat.strongRecOn with
  | _ u ih =>
    by_cases h : u < 10
    · rw [decDigits, dif_pos h]; simp only [dval, List.foldl_cons, List.foldl_nil, u8_digit h]; omega
    · rw [decDigits, dif_neg h, dval_snoc, ih (u / 10) (by omega), u8_digit (by omega)]; omega
theorem dec_mem (u : Nat) : ∀ c ∈ decDigits u, 48 ≤ c.toNat ∧ c.toNat ≤ 57 := by
  induction u using Nat.strongRecOn with
  | _ u ih =>
    intro c hc
    by_cases h : u < 10
    · rw [decDigits, dif_pos h] at hc
      simp only [List.mem_singleton] at hc
      subst hc; rw [u8_digit h]; omega
    · rw [decDigits, dif_neg h] at hc
      rcases List.mem_append.1 hc with hc | hc
      · exact ih (u / 10) (by omega) c hc
      · simp only [List.mem_singleton] at hc
        subst hc; rw [u8_digit (by omega)]; omega
theorem itoa_mem_lt (n : Int) : ∀ c ∈ itoa n, c.toNat < 58 := by
  intro c hc
  unfold itoa at hc
  split at hc
  · rcases List.mem_cons.1 hc with rfl | hc
    · decide
    · have := dec_mem _ c hc; omega
  · have := dec_mem _ c hc; omega
theorem itoa_inj {m n : Int} (h : itoa m = itoa n) : m = n := by
  unfold itoa at h
  split at h <;> split at h
  · have := congrArg dval (List.cons.inj h).2
    rw [dval_dec, dval_dec] at this; omega
  · have hm : (45 : UInt8) ∈ decDigits n.toNat := by rw [← h]; simp
    exact absurd (dec_mem _ _ hm).1 (by decide)
  · have hm : (45 : UInt8) ∈ decDigits m.toNat := by rw [h]; simp
    exact absurd (dec_mem _ _ hm).1 (by decide)
  · have := congrArg dval h
    rw [dval_dec, dval_dec] at this; omega
/-- Two texts that each end at the first separator. -/
theorem sep_inj {c : UInt8} : ∀ {a b x y : List UInt8}, (∀ d ∈ a, d ≠ c) → (∀ d ∈ b, d ≠ c) → a ++ c :: x = b ++ c :: y → a = b ∧ x = y
  | [], [], x, y, _, _, h => ⟨rfl, (List.cons.inj h).2⟩
  | [], d :: b, x, y, _, hb, h => absurd (List.cons.inj h).1.symm (hb d (by simp))
  | d :: a, [], x, y, ha, _, h => absurd (List.cons.inj h).1 (ha d (by simp))
  | d :: a, d' :: b, x, y, ha, hb, h => by
    have h1 := List.cons.inj h
    have h2 := sep_inj (fun d hd => ha d (by simp [hd])) (fun d hd => hb d (by simp [hd])) h1.2
    exact ⟨by rw [h1.1, h2.1], h2.2⟩
theorem itoa_ne {n : Int} {c : UInt8} (hc : 58 ≤ c.toNat) : ∀ d ∈ itoa n, d ≠ c := fun d hd h => by
  have := itoa_mem_lt n d hd; rw [h] at this; omega
theorem wInt_inj {m n : Int} {x y : List UInt8} (h : wInt m ++ x = wInt n ++ y) : m = n ∧ x = y := by
  simp only [wInt, List.append_assoc, List.singleton_append] at h
  have := sep_inj (itoa_ne (by decide)) (itoa_ne (by decide)) h
  exact ⟨itoa_inj this.1, this.2⟩
theorem wText_inj {s t : ByteArray} {x y : List UInt8} (h : wText s ++ x = wText t ++ y) : s = t ∧ x = y := by
  simp only [wText, List.append_assoc, List.cons_append] at h
  have h1 := sep_inj (itoa_ne (by decide)) (itoa_ne (by decide)) h
  have h2 : s.data.toList.length = t.data.toList.length := by
    have := itoa_inj h1.1; rw [← ba_size, ← ba_size]; omega
  have h3 := List.append_inj h1.2 h2
  exact ⟨ba_ext h3.1, h3.2⟩
theorem wInts_inj : ∀ {l l' : List Int} {x y : List UInt8}, l.length = l'.length → wInts l ++ x = wInts l' ++ y → l = l' ∧ x = y
  | [], [], x, y, _, h => ⟨rfl, h⟩
  | [], _ :: _, _, _, hl, _ => by simp at hl
  | _ :: _, [], _, _, hl, _ => by simp at hl
  | a :: l, b :: l', x, y, hl, h => by
    simp only [wInts, List.flatMap_cons, List.append_assoc] at h
    have h1 := wInt_inj h
    have h2 := wInts_inj (l := l) (l' := l') (by simpa using hl) h1.2
    exact ⟨by rw [h1.1, h2.1], h2.2⟩

theorem truthN_inj {a b : Bool} (h : truthN a = truthN b) : a = b := by cases a <;> cases b <;> simp [truthN] at h ⊢
theorem encR1_inj {r r' : Req} {x y : List UInt8} (h : encR1 r ++ x = encR1 r' ++ y) : r = r' ∧ x = y := by
  simp only [encR1, List.append_assoc] at h
  obtain ⟨h1, h⟩ := wInts_inj (by rfl) h
  obtain ⟨h2, h⟩ := wText_inj h
  obtain ⟨h3, h⟩ := wText_inj h
  obtain ⟨h4, h⟩ := wInts_inj (by rfl) h
  simp only [Req.ints1, Req.ints2, List.cons.injEq, and_true] at h1 h4
  obtain ⟨a0, a1, a2, a3, a4⟩ := h1
  obtain ⟨a5, a6⟩ := h4
  refine ⟨?_, h⟩
  cases r; cases r'
  simp_all
  exact truthN_inj a2
theorem encRs_inj : ∀ {L L' : List Req} {x y : List UInt8}, L.length = L'.length → L.flatMap encR1 ++ x = L'.flatMap encR1 ++ y → L = L' ∧ x = y
  | [], [], _, _, _, h => ⟨rfl, h⟩
  | [], _ :: _, _, _, hl, _ => by simp at hl
  | _ :: _, [], _, _, hl, _ => by simp at hl
  | a :: L, b :: L', x, y, hl, h => by
    simp only [List.flatMap_cons, List.append_assoc] at h
    obtain ⟨rfl, h2⟩ := encR1_inj h
    obtain ⟨rfl, h3⟩ := encRs_inj (by simpa using hl) h2
    exact ⟨rfl, h3⟩
theorem encL_inj {L L' : List Req} (h : encL L = encL L') : L = L' := by
  unfold encL at h
  obtain ⟨h1, h2⟩ := wInt_inj h
  refine (encRs_inj (x := []) (y := []) (by omega) (by simpa using h2)).1

set_option maxHeartbeats 4000000 in
set_option maxRecDepth 100000 in
theorem sets_r7s {s0 s1 s2 s3 s4 s5 s7 s8 s9 s10 s11 s13 s14 s15 s16 s17 s18 s19 s20 s21 s22 s23 s24 s25 s26 s27 s28 s29 s30 s31 s32 s33 s34 s35 s36 s37 s38 s39 s40 s41 s42 s43 s44 s45 s46 s47 s48 s49 s50 s51 s52 s53 s54 s55 s56 s57 s58 s59 s60 s61 s62 s63 s64 s65 s66 s67 s68 s69 s70 s71 s72 s73 s74 s75 s76 s77 s78 s79 s80 s81 s82 s83 s84 s85 s86 s87 s88 s89 s90 s91 s92 s93 s94 s95 s96 s97 s98 s99 s100 s101 s102 s103 s104 s105 s106 s107 s108 s109 s110 s111 s112 s113 s114 s115 s116 s117 s118 s119 s120 s121 s122 s123 s124 s125 s126 s127 s128 s129 s130 s131 s132 s133 s134 s135 s136 s137 s138 s139 s140 s141 s142 s143 s144 s145 s146 s147 s148 s149 s150 s151 s152 s153 s154 s155 s156 s157 s158 s159 s160 s161 s162 s163 s164 s165 s166 s167 s168 s169 s170 s171 s172 s173 s174 s175 s176 s177 s178 s179 : Value} (b o c k : Nat) (A : List Req) (W : World) (Q : Exit → Act → World → Prop) (hV : ReqsIn W (.slice (some ⟨b, o, none⟩) A.length c) A) (hk : k ≤ A.length) (hlc : A.length ≤ c) (hlen : A.length ≤ 100000)
    (hQ : ∀ (u13 u52 u53 u54 u55 u56 u57 u58 u59 u60 u61 u62 : Value) (wx : World), RowKit.Below W.heap.size W wx → ReqsIn wx u13 (A.drop k ++ A.take k ++ A) → Q .normal ⟨List.toArray (s0 :: s1 :: s2 :: s3 :: s4 :: s5 :: .slice (some ⟨b, o, none⟩) A.length c :: s7 :: s8 :: s9 :: s10 :: s11 :: .int .i64 k :: u13 :: s14 :: s15 :: s16 :: s17 :: s18 :: s19 :: s20 :: s21 :: s22 :: s23 :: s24 :: s25 :: s26 :: s27 :: s28 :: s29 :: s30 :: s31 :: s32 :: s33 :: s34 :: s35 :: s36 :: s37 :: s38 :: s39 :: s40 :: s41 :: s42 :: s43 :: s44 :: s45 :: s46 :: s47 :: s48 :: s49 :: s50 :: s51 :: u52 :: u53 :: u54 :: u55 :: u56 :: u57 :: u58 :: u59 :: u60 :: u61 :: u62 :: s63 :: s64 :: s65 :: s66 :: s67 :: s68 :: s69 :: s70 :: s71 :: s72 :: s73 :: s74 :: s75 :: s76 :: s77 :: s78 :: s79 :: s80 :: s81 :: s82 :: s83 :: s84 :: s85 :: s86 :: s87 :: s88 :: s89 :: s90 :: s91 :: s92 :: s93 :: s94 :: s95 :: s96 :: s97 :: s98 :: s99 :: s100 :: s101 :: s102 :: s103 :: s104 :: s105 :: s106 :: s107 :: s108 :: s109 :: s110 :: s111 :: s112 :: s113 :: s114 :: s115 :: s116 :: s117 :: s118 :: s119 :: s120 :: s121 :: s122 :: s123 :: s124 :: s125 :: s126 :: s127 :: s128 :: s129 :: s130 :: s131 :: s132 :: s133 :: s134 :: s135 :: s136 :: s137 :: s138 :: s139 :: s140 :: s141 :: s142 :: s143 :: s144 :: s145 :: s146 :: s147 :: s148 :: s149 :: s150 :: s151 :: s152 :: s153 :: s154 :: s155 :: s156 :: s157 :: s158 :: s159 :: s160 :: s161 :: s162 :: s163 :: s164 :: s165 :: s166 :: s167 :: s168 :: s169 :: s170 :: s171 :: s172 :: s173 :: s174 :: s175 :: s176 :: s177 :: s178 :: s179 :: []), []⟩ wx) :
    (regionOf Tryd.f6 7).wp Tryd.prog Q ⟨List.toArray (s0 :: s1 :: s2 :: s3 :: s4 :: s5 :: .slice (some ⟨b, o, none⟩) A.length c :: s7 :: s8 :: s9 :: s10 :: s11 :: .int .i64 k :: s13 :: s14 :: s15 :: s16 :: s17 :: s18 :: s19 :: s20 :: s21 :: s22 :: s23 :: s24 :: s25 :: s26 :: s27 :: s28 :: s29 :: s30 :: s31 :: s32 :: s33 :: s34 :: s35 :: s36 :: s37 :: s38 :: s39 :: s40 :: s41 :: s42 :: s43 :: s44 :: s45 :: s46 :: s47 :: s48 :: s49 :: s50 :: s51 :: s52 :: s53 :: s54 :: s55 :: s56 :: s57 :: s58 :: s59 :: s60 :: s61 :: s62 :: s63 :: s64 :: s65 :: s66 :: s67 :: s68 :: s69 :: s70 :: s71 :: s72 :: s73 :: s74 :: s75 :: s76 :: s77 :: s78 :: s79 :: s80 :: s81 :: s82 :: s83 :: s84 :: s85 :: s86 :: s87 :: s88 :: s89 :: s90 :: s91 :: s92 :: s93 :: s94 :: s95 :: s96 :: s97 :: s98 :: s99 :: s100 :: s101 :: s102 :: s103 :: s104 :: s105 :: s106 :: s107 :: s108 :: s109 :: s110 :: s111 :: s112 :: s113 :: s114 :: s115 :: s116 :: s117 :: s118 :: s119 :: s120 :: s121 :: s122 :: s123 :: s124 :: s125 :: s126 :: s127 :: s128 :: s129 :: s130 :: s131 :: s132 :: s133 :: s134 :: s135 :: s136 :: s137 :: s138 :: s139 :: s140 :: s141 :: s142 :: s143 :: s144 :: s145 :: s146 :: s147 :: s148 :: s149 :: s150 :: s151 :: s152 :: s153 :: s154 :: s155 :: s156 :: s157 :: s158 :: s159 :: s160 :: s161 :: s162 :: s163 :: s164 :: s165 :: s166 :: s167 :: s168 :: s169 :: s170 :: s171 :: s172 :: s173 :: s174 :: s175 :: s176 :: s177 :: s178 :: s179 :: []), []⟩ W := by
  refine of_onlyN (K := Q .normal) ?_ (fun _ _ h => h)
  generalize Q .normal = K at hQ ⊢
  have HQ := Lib.hid hQ; clear hQ
  conv => arg 2; whnf
  have hT : ReqsIn W (.slice (some ⟨b, o, none⟩) k c) (A.take k) := hV.take k hk
  have hZ : ReqsIn W (.slice (if c = k then some ⟨b, o, none⟩ else some ⟨b, o + k * 9, none⟩) (A.length - k) (c - k)) (A.drop k) := (by by_cases h : c = k; (rw [if_pos h]; exact hV.drop k hk o (.inl (by omega))); (rw [if_neg h]; exact hV.drop k hk _ (.inr rfl)))
  have hV0 : ReqsIn W (.slice (some ⟨b, o, none⟩) A.length c) (A) := hV
  have hkn : (k : Int) ≤ (A.length : Int) := by omega
  have hkc : (k : Int) ≤ (c : Int) := by omega
  have lt1 : (A.take k).length ≤ 100000 := by simp; omega
  have lt2 : (A.drop k).length ≤ 100000 := by simp; omega
  have hS0 : RowKit.Below W.heap.size W W.drew := (Below.refl _ _).drew
  have hown0 := own_empty_at W.drew W.heap.size W.heap.size rfl (Nat.le_refl _)
  refine of_onlyN ?_ (fun _ _ h => h)
  refine wp_region_flow (S := fun w' => RowKit.Below W.heap.size W w') [(1, true), (2, true), (3, true), (5, true), (6, true), (7, true), (9, true), (0, false), (4, false), (8, false), (10, false), (11, true)] (by kernel_rfl) (by kernel_rfl) (by kernel_rfl) (by decide) (hS0) ?_
  have hS := hS0
  refine flow_take ⟨some 53, _, _, _, _, _⟩ ?_ rfl (by rfl) ?_ ?_
  rotate_left 1
  · intro w hSw; (try dsimp only at hSw); go_simp; (try with_reducible rfl)
  simp only [Act.put, List.setIfInBounds_toArray, List.set_cons_zero, List.set_cons_succ]
  refine flow_take ⟨some 54, _, _, _, _, _⟩ ?_ rfl (by rfl) ?_ ?_
  rotate_left 1
  · intro w hSw; (try dsimp only at hSw); go_simp; (try with_reducible rfl)
  simp only [Act.put, List.setIfInBounds_toArray, List.set_cons_zero, List.set_cons_succ]
  refine flow_take ⟨some 55, _, _, _, _, _⟩ ?_ rfl (by rfl) ?_ ?_
  rotate_left 1
  · intro w hSw; (try dsimp only at hSw); go_simp; (try with_reducible rfl)
  simp only [Act.put, List.setIfInBounds_toArray, List.set_cons_zero, List.set_cons_succ]
  refine flow_take ⟨some 57, _, _, _, _, _⟩ ?_ rfl (by rfl) ?_ ?_
  rotate_left 1
  · intro w hSw; (try dsimp only at hSw); go_simp; (try with_reducible rfl)
  simp only [Act.put, List.setIfInBounds_toArray, List.set_cons_zero, List.set_cons_succ]
  refine flow_take ⟨some 58, _, _, _, _, _⟩ ?_ rfl (by rfl) ?_ ?_
  rotate_left 1
  · intro w hSw; (try dsimp only at hSw); go_simp; (try with_reducible rfl)
  simp only [Act.put, List.setIfInBounds_toArray, List.set_cons_zero, List.set_cons_succ]
  refine flow_take ⟨some 59, _, _, _, _, _⟩ ?_ rfl (by rfl) ?_ ?_
  rotate_left 1
  · intro w hSw; (try dsimp only at hSw); go_simp; (try with_reducible rfl)
  simp only [Act.put, List.setIfInBounds_toArray, List.set_cons_zero, List.set_cons_succ]
  refine flow_take ⟨some 61, _, _, _, _, _⟩ ?_ rfl (by rfl) ?_ ?_
  rotate_left 1
  · intro w hSw; (try dsimp only at hSw); go_simp; (try with_reducible rfl)
  simp only [Act.put, List.setIfInBounds_toArray, List.set_cons_zero, List.set_cons_succ]
  refine flow_run ⟨some 52, _, _, _, _, _⟩ (.slice (some ⟨W.heap.size, 0, none⟩) 0 0) (W.drew.alloc (.cells #[] 34)) rfl (by rfl) (by go_simp) (below_alloc1 _ _).drew ?_; replace hS : RowKit.Below W.heap.size W (W.drew.alloc (.cells #[] 34)) := (below_alloc1 W _).drew
  simp only [Act.put, List.setIfInBounds_toArray, List.set_cons_zero, List.set_cons_succ]
  refine flow_append_reqs ⟨some 56, _, _, _, _, _⟩ rfl (by rfl) (.tmp 52) (.tmp 55) (by rfl) W.heap.size _ _ [] (A.drop k) (by rfl) (by rfl) hown0 (hZ.below hS) (by simp only [List.length_nil]; omega) hS.size ?_; intro v1 w1 hA1; replace hS : RowKit.Below W.heap.size W w1 := hS.grown hA1.grown hS.size (fun q hq => (hown0.lt q hq).1); refine ⟨hS, ?_⟩
  (try simp only [Act.put, List.setIfInBounds_toArray, List.set_cons_zero, List.set_cons_succ])
  refine flow_append_reqs ⟨some 60, _, _, _, _, _⟩ rfl (by rfl) (.tmp 56) (.tmp 59) (by rfl) W.heap.size _ _ ([] ++ (A.drop k)) (A.take k) (by rfl) (by rfl) hA1.own (hT.below hS) (by simp only [List.nil_append]; omega) hS.size ?_; intro v2 w2 hA2; replace hS : RowKit.Below W.heap.size W w2 := hS.grown hA2.grown hS.size (fun q hq => (hA1.own.lt q hq).1); refine ⟨hS, ?_⟩
  (try simp only [Act.put, List.setIfInBounds_toArray, List.set_cons_zero, List.set_cons_succ])
  refine flow_append_reqs ⟨some 62, _, _, _, _, _⟩ rfl (by rfl) (.tmp 60) (.tmp 61) (by rfl) W.heap.size _ _ ([] ++ (A.drop k) ++ (A.take k)) (A) (by rfl) (by rfl) hA2.own (hV0.below hS) (by simp only [List.nil_append, List.length_append]; omega) hS.size ?_; intro v3 w3 hA3; replace hS : RowKit.Below W.heap.size W w3 := hS.grown hA3.grown hS.size (fun q hq => (hA2.own.lt q hq).1); refine ⟨hS, ?_⟩
  (try simp only [Act.put, List.setIfInBounds_toArray, List.set_cons_zero, List.set_cons_succ])
  refine flow_take ⟨some 13, _, _, _, _, _⟩ ?_ rfl (by rfl) ?_ ?_
  rotate_left 1
  · intro w hSw; (try dsimp only at hSw); go_simp; (try with_reducible rfl)
  simp only [Act.put, List.setIfInBounds_toArray, List.set_cons_zero, List.set_cons_succ]
  simp only [wpFlow, OnlyN]
  exact HQ.out _ _ _ _ _ _ _ _ _ _ _ _ _ hS (by have h := reqsIn_own hA3.own; rw [List.nil_append] at h; exact h)

set_option maxHeartbeats 4000000 in
set_option maxRecDepth 100000 in
theorem sets_r7n {s0 s1 s2 s3 s4 s5 s7 s8 s9 s10 s11 s13 s14 s15 s16 s17 s18 s19 s20 s21 s22 s23 s24 s25 s26 s27 s28 s29 s30 s31 s32 s33 s34 s35 s36 s37 s38 s39 s40 s41 s42 s43 s44 s45 s46 s47 s48 s49 s50 s51 s52 s53 s54 s55 s56 s57 s58 s59 s60 s61 s62 s63 s64 s65 s66 s67 s68 s69 s70 s71 s72 s73 s74 s75 s76 s77 s78 s79 s80 s81 s82 s83 s84 s85 s86 s87 s88 s89 s90 s91 s92 s93 s94 s95 s96 s97 s98 s99 s100 s101 s102 s103 s104 s105 s106 s107 s108 s109 s110 s111 s112 s113 s114 s115 s116 s117 s118 s119 s120 s121 s122 s123 s124 s125 s126 s127 s128 s129 s130 s131 s132 s133 s134 s135 s136 s137 s138 s139 s140 s141 s142 s143 s144 s145 s146 s147 s148 s149 s150 s151 s152 s153 s154 s155 s156 s157 s158 s159 s160 s161 s162 s163 s164 s165 s166 s167 s168 s169 s170 s171 s172 s173 s174 s175 s176 s177 s178 s179 : Value}  (W : World) (Q : Exit → Act → World → Prop) 
    (hQ : ∀ (u13 u52 u53 u54 u55 u56 u57 u58 u59 u60 u61 u62 : Value) (wx : World), RowKit.Below W.heap.size W wx → ReqsIn wx u13 (([] : List Req) ++ ([] : List Req) ++ ([] : List Req)) → Q .normal ⟨List.toArray (s0 :: s1 :: s2 :: s3 :: s4 :: s5 :: .slice none 0 0 :: s7 :: s8 :: s9 :: s10 :: s11 :: .int .i64 0 :: u13 :: s14 :: s15 :: s16 :: s17 :: s18 :: s19 :: s20 :: s21 :: s22 :: s23 :: s24 :: s25 :: s26 :: s27 :: s28 :: s29 :: s30 :: s31 :: s32 :: s33 :: s34 :: s35 :: s36 :: s37 :: s38 :: s39 :: s40 :: s41 :: s42 :: s43 :: s44 :: s45 :: s46 :: s47 :: s48 :: s49 :: s50 :: s51 :: u52 :: u53 :: u54 :: u55 :: u56 :: u57 :: u58 :: u59 :: u60 :: u61 :: u62 :: s63 :: s64 :: s65 :: s66 :: s67 :: s68 :: s69 :: s70 :: s71 :: s72 :: s73 :: s74 :: s75 :: s76 :: s77 :: s78 :: s79 :: s80 :: s81 :: s82 :: s83 :: s84 :: s85 :: s86 :: s87 :: s88 :: s89 :: s90 :: s91 :: s92 :: s93 :: s94 :: s95 :: s96 :: s97 :: s98 :: s99 :: s100 :: s101 :: s102 :: s103 :: s104 :: s105 :: s106 :: s107 :: s108 :: s109 :: s110 :: s111 :: s112 :: s113 :: s114 :: s115 :: s116 :: s117 :: s118 :: s119 :: s120 :: s121 :: s122 :: s123 :: s124 :: s125 :: s126 :: s127 :: s128 :: s129 :: s130 :: s131 :: s132 :: s133 :: s134 :: s135 :: s136 :: s137 :: s138 :: s139 :: s140 :: s141 :: s142 :: s143 :: s144 :: s145 :: s146 :: s147 :: s148 :: s149 :: s150 :: s151 :: s152 :: s153 :: s154 :: s155 :: s156 :: s157 :: s158 :: s159 :: s160 :: s161 :: s162 :: s163 :: s164 :: s165 :: s166 :: s167 :: s168 :: s169 :: s170 :: s171 :: s172 :: s173 :: s174 :: s175 :: s176 :: s177 :: s178 :: s179 :: []), []⟩ wx) :
    (regionOf Tryd.f6 7).wp Tryd.prog Q ⟨List.toArray (s0 :: s1 :: s2 :: s3 :: s4 :: s5 :: .slice none 0 0 :: s7 :: s8 :: s9 :: s10 :: s11 :: .int .i64 0 :: s13 :: s14 :: s15 :: s16 :: s17 :: s18 :: s19 :: s20 :: s21 :: s22 :: s23 :: s24 :: s25 :: s26 :: s27 :: s28 :: s29 :: s30 :: s31 :: s32 :: s33 :: s34 :: s35 :: s36 :: s37 :: s38 :: s39 :: s40 :: s41 :: s42 :: s43 :: s44 :: s45 :: s46 :: s47 :: s48 :: s49 :: s50 :: s51 :: s52 :: s53 :: s54 :: s55 :: s56 :: s57 :: s58 :: s59 :: s60 :: s61 :: s62 :: s63 :: s64 :: s65 :: s66 :: s67 :: s68 :: s69 :: s70 :: s71 :: s72 :: s73 :: s74 :: s75 :: s76 :: s77 :: s78 :: s79 :: s80 :: s81 :: s82 :: s83 :: s84 :: s85 :: s86 :: s87 :: s88 :: s89 :: s90 :: s91 :: s92 :: s93 :: s94 :: s95 :: s96 :: s97 :: s98 :: s99 :: s100 :: s101 :: s102 :: s103 :: s104 :: s105 :: s106 :: s107 :: s108 :: s109 :: s110 :: s111 :: s112 :: s113 :: s114 :: s115 :: s116 :: s117 :: s118 :: s119 :: s120 :: s121 :: s122 :: s123 :: s124 :: s125 :: s126 :: s127 :: s128 :: s129 :: s130 :: s131 :: s132 :: s133 :: s134 :: s135 :: s136 :: s137 :: s138 :: s139 :: s140 :: s141 :: s142 :: s143 :: s144 :: s145 :: s146 :: s147 :: s148 :: s149 :: s150 :: s151 :: s152 :: s153 :: s154 :: s155 :: s156 :: s157 :: s158 :: s159 :: s160 :: s161 :: s162 :: s163 :: s164 :: s165 :: s166 :: s167 :: s168 :: s169 :: s170 :: s171 :: s172 :: s173 :: s174 :: s175 :: s176 :: s177 :: s178 :: s179 :: []), []⟩ W := by
  refine of_onlyN (K := Q .normal) ?_ (fun _ _ h => h)
  generalize Q .normal = K at hQ ⊢
  have HQ := Lib.hid hQ; clear hQ
  conv => arg 2; whnf
  have hT : ReqsIn W (.slice none 0 0) (([] : List Req)) := .inl ⟨rfl, rfl⟩
  have hZ : ReqsIn W (.slice none 0 0) (([] : List Req)) := .inl ⟨rfl, rfl⟩
  have hV0 : ReqsIn W (.slice none 0 0) (([] : List Req)) := .inl ⟨rfl, rfl⟩
  have lt1 : ([] : List Req).length ≤ 100000 := by decide
  have hS0 : RowKit.Below W.heap.size W W.drew := (Below.refl _ _).drew
  have hown0 := own_empty_at W.drew W.heap.size W.heap.size rfl (Nat.le_refl _)
  refine of_onlyN ?_ (fun _ _ h => h)
  refine wp_region_flow (S := fun w' => RowKit.Below W.heap.size W w') [(1, true), (2, true), (3, true), (5, true), (6, true), (7, true), (9, true), (0, false), (4, false), (8, false), (10, false), (11, true)] (by kernel_rfl) (by kernel_rfl) (by kernel_rfl) (by decide) (hS0) ?_
  have hS := hS0
  refine flow_take ⟨some 53, _, _, _, _, _⟩ ?_ rfl (by rfl) ?_ ?_
  rotate_left 1
  · intro w hSw; (try dsimp only at hSw); go_simp; (try with_reducible rfl)
  simp only [Act.put, List.setIfInBounds_toArray, List.set_cons_zero, List.set_cons_succ]
  refine flow_take ⟨some 54, _, _, _, _, _⟩ ?_ rfl (by rfl) ?_ ?_
  rotate_left 1
  · intro w hSw; (try dsimp only at hSw); go_simp; (try with_reducible rfl)
  simp only [Act.put, List.setIfInBounds_toArray, List.set_cons_zero, List.set_cons_succ]
  refine flow_take ⟨some 55, _, _, _, _, _⟩ ?_ rfl (by rfl) ?_ ?_
  rotate_left 1
  · intro w hSw; (try dsimp only at hSw); go_simp; (try with_reducible rfl)
  simp only [Act.put, List.setIfInBounds_toArray, List.set_cons_zero, List.set_cons_succ]
  refine flow_take ⟨some 57, _, _, _, _, _⟩ ?_ rfl (by rfl) ?_ ?_
  rotate_left 1
  · intro w hSw; (try dsimp only at hSw); go_simp; (try with_reducible rfl)
  simp only [Act.put, List.setIfInBounds_toArray, List.set_cons_zero, List.set_cons_succ]
  refine flow_take ⟨some 58, _, _, _, _, _⟩ ?_ rfl (by rfl) ?_ ?_
  rotate_left 1
  · intro w hSw; (try dsimp only at hSw); go_simp; (try with_reducible rfl)
  simp only [Act.put, List.setIfInBounds_toArray, List.set_cons_zero, List.set_cons_succ]
  refine flow_take ⟨some 59, _, _, _, _, _⟩ ?_ rfl (by rfl) ?_ ?_
  rotate_left 1
  · intro w hSw; (try dsimp only at hSw); go_simp; (try with_reducible rfl)
  simp only [Act.put, List.setIfInBounds_toArray, List.set_cons_zero, List.set_cons_succ]
  refine flow_take ⟨some 61, _, _, _, _, _⟩ ?_ rfl (by rfl) ?_ ?_
  rotate_left 1
  · intro w hSw; (try dsimp only at hSw); go_simp; (try with_reducible rfl)
  simp only [Act.put, List.setIfInBounds_toArray, List.set_cons_zero, List.set_cons_succ]
  refine flow_run ⟨some 52, _, _, _, _, _⟩ (.slice (some ⟨W.heap.size, 0, none⟩) 0 0) (W.drew.alloc (.cells #[] 34)) rfl (by rfl) (by go_simp) (below_alloc1 _ _).drew ?_; replace hS : RowKit.Below W.heap.size W (W.drew.alloc (.cells #[] 34)) := (below_alloc1 W _).drew
  simp only [Act.put, List.setIfInBounds_toArray, List.set_cons_zero, List.set_cons_succ]
  refine flow_append_reqs ⟨some 56, _, _, _, _, _⟩ rfl (by rfl) (.tmp 52) (.tmp 55) (by rfl) W.heap.size _ _ [] (([] : List Req)) (by rfl) (by rfl) hown0 (hZ.below hS) (by simp only [List.length_nil]; omega) hS.size ?_; intro v1 w1 hA1; replace hS : RowKit.Below W.heap.size W w1 := hS.grown hA1.grown hS.size (fun q hq => (hown0.lt q hq).1); refine ⟨hS, ?_⟩
  (try simp only [Act.put, List.setIfInBounds_toArray, List.set_cons_zero, List.set_cons_succ])
  refine flow_append_reqs ⟨some 60, _, _, _, _, _⟩ rfl (by rfl) (.tmp 56) (.tmp 59) (by rfl) W.heap.size _ _ ([] ++ (([] : List Req))) (([] : List Req)) (by rfl) (by rfl) hA1.own (hT.below hS) (by simp only [List.nil_append]; omega) hS.size ?_; intro v2 w2 hA2; replace hS : RowKit.Below W.heap.size W w2 := hS.grown hA2.grown hS.size (fun q hq => (hA1.own.lt q hq).1); refine ⟨hS, ?_⟩
  (try simp only [Act.put, List.setIfInBounds_toArray, List.set_cons_zero, List.set_cons_succ])
  refine flow_append_reqs ⟨some 62, _, _, _, _, _⟩ rfl (by rfl) (.tmp 60) (.tmp 61) (by rfl) W.heap.size _ _ ([] ++ (([] : List Req)) ++ (([] : List Req))) (([] : List Req)) (by rfl) (by rfl) hA2.own (hV0.below hS) (by simp only [List.nil_append]; omega) hS.size ?_; intro v3 w3 hA3; replace hS : RowKit.Below W.heap.size W w3 := hS.grown hA3.grown hS.size (fun q hq => (hA2.own.lt q hq).1); refine ⟨hS, ?_⟩
  (try simp only [Act.put, List.setIfInBounds_toArray, List.set_cons_zero, List.set_cons_succ])
  refine flow_take ⟨some 13, _, _, _, _, _⟩ ?_ rfl (by rfl) ?_ ?_
  rotate_left 1
  · intro w hSw; (try dsimp only at hSw); go_simp; (try with_reducible rfl)
  simp only [Act.put, List.setIfInBounds_toArray, List.set_cons_zero, List.set_cons_succ]
  simp only [wpFlow, OnlyN]
  exact HQ.out _ _ _ _ _ _ _ _ _ _ _ _ _ hS (by have h := reqsIn_own hA3.own; rw [List.nil_append] at h; exact h)
theorem sets_r7_form {w : World} {va : Value} {A : List Req} (h : ReqsIn w va A) : (va = .slice none 0 0 ∧ A = []) ∨ ∃ b o c, va = .slice (some ⟨b, o, none⟩) A.length c ∧ A.length ≤ c := by
  rcases h with h | ⟨b, o, c, h1, h2, _⟩
  · exact .inl h
  · exact .inr ⟨b, o, c, h1, h2⟩

set_option maxHeartbeats 4000000 in
set_option maxRecDepth 100000 in
theorem sets_r7 {s0 s1 s2 s3 s4 s5 s7 s8 s9 s10 s11 s13 s14 s15 s16 s17 s18 s19 s20 s21 s22 s23 s24 s25 s26 s27 s28 s29 s30 s31 s32 s33 s34 s35 s36 s37 s38 s39 s40 s41 s42 s43 s44 s45 s46 s47 s48 s49 s50 s51 s52 s53 s54 s55 s56 s57 s58 s59 s60 s61 s62 s63 s64 s65 s66 s67 s68 s69 s70 s71 s72 s73 s74 s75 s76 s77 s78 s79 s80 s81 s82 s83 s84 s85 s86 s87 s88 s89 s90 s91 s92 s93 s94 s95 s96 s97 s98 s99 s100 s101 s102 s103 s104 s105 s106 s107 s108 s109 s110 s111 s112 s113 s114 s115 s116 s117 s118 s119 s120 s121 s122 s123 s124 s125 s126 s127 s128 s129 s130 s131 s132 s133 s134 s135 s136 s137 s138 s139 s140 s141 s142 s143 s144 s145 s146 s147 s148 s149 s150 s151 s152 s153 s154 s155 s156 s157 s158 s159 s160 s161 s162 s163 s164 s165 s166 s167 s168 s169 s170 s171 s172 s173 s174 s175 s176 s177 s178 s179 : Value} (sa : Option Addr) (ca k : Nat) (A : List Req) (W : World) (Q : Exit → Act → World → Prop) (hV : ReqsIn W (.slice sa A.length ca) A) (hk : k ≤ A.length) (hlen : A.length ≤ 100000)
    (hQ : ∀ (u13 u52 u53 u54 u55 u56 u57 u58 u59 u60 u61 u62 : Value) (wx : World), RowKit.Below W.heap.size W wx → ReqsIn wx u13 (A.drop k ++ A.take k ++ A) → Q .normal ⟨List.toArray (s0 :: s1 :: s2 :: s3 :: s4 :: s5 :: .slice sa A.length ca :: s7 :: s8 :: s9 :: s10 :: s11 :: .int .i64 k :: u13 :: s14 :: s15 :: s16 :: s17 :: s18 :: s19 :: s20 :: s21 :: s22 :: s23 :: s24 :: s25 :: s26 :: s27 :: s28 :: s29 :: s30 :: s31 :: s32 :: s33 :: s34 :: s35 :: s36 :: s37 :: s38 :: s39 :: s40 :: s41 :: s42 :: s43 :: s44 :: s45 :: s46 :: s47 :: s48 :: s49 :: s50 :: s51 :: u52 :: u53 :: u54 :: u55 :: u56 :: u57 :: u58 :: u59 :: u60 :: u61 :: u62 :: s63 :: s64 :: s65 :: s66 :: s67 :: s68 :: s69 :: s70 :: s71 :: s72 :: s73 :: s74 :: s75 :: s76 :: s77 :: s78 :: s79 :: s80 :: s81 :: s82 :: s83 :: s84 :: s85 :: s86 :: s87 :: s88 :: s89 :: s90 :: s91 :: s92 :: s93 :: s94 :: s95 :: s96 :: s97 :: s98 :: s99 :: s100 :: s101 :: s102 :: s103 :: s104 :: s105 :: s106 :: s107 :: s108 :: s109 :: s110 :: s111 :: s112 :: s113 :: s114 :: s115 :: s116 :: s117 :: s118 :: s119 :: s120 :: s121 :: s122 :: s123 :: s124 :: s125 :: s126 :: s127 :: s128 :: s129 :: s130 :: s131 :: s132 :: s133 :: s134 :: s135 :: s136 :: s137 :: s138 :: s139 :: s140 :: s141 :: s142 :: s143 :: s144 :: s145 :: s146 :: s147 :: s148 :: s149 :: s150 :: s151 :: s152 :: s153 :: s154 :: s155 :: s156 :: s157 :: s158 :: s159 :: s160 :: s161 :: s162 :: s163 :: s164 :: s165 :: s166 :: s167 :: s168 :: s169 :: s170 :: s171 :: s172 :: s173 :: s174 :: s175 :: s176 :: s177 :: s178 :: s179 :: []), []⟩ wx) :
    (regionOf Tryd.f6 7).wp Tryd.prog Q ⟨List.toArray (s0 :: s1 :: s2 :: s3 :: s4 :: s5 :: .slice sa A.length ca :: s7 :: s8 :: s9 :: s10 :: s11 :: .int .i64 k :: s13 :: s14 :: s15 :: s16 :: s17 :: s18 :: s19 :: s20 :: s21 :: s22 :: s23 :: s24 :: s25 :: s26 :: s27 :: s28 :: s29 :: s30 :: s31 :: s32 :: s33 :: s34 :: s35 :: s36 :: s37 :: s38 :: s39 :: s40 :: s41 :: s42 :: s43 :: s44 :: s45 :: s46 :: s47 :: s48 :: s49 :: s50 :: s51 :: s52 :: s53 :: s54 :: s55 :: s56 :: s57 :: s58 :: s59 :: s60 :: s61 :: s62 :: s63 :: s64 :: s65 :: s66 :: s67 :: s68 :: s69 :: s70 :: s71 :: s72 :: s73 :: s74 :: s75 :: s76 :: s77 :: s78 :: s79 :: s80 :: s81 :: s82 :: s83 :: s84 :: s85 :: s86 :: s87 :: s88 :: s89 :: s90 :: s91 :: s92 :: s93 :: s94 :: s95 :: s96 :: s97 :: s98 :: s99 :: s100 :: s101 :: s102 :: s103 :: s104 :: s105 :: s106 :: s107 :: s108 :: s109 :: s110 :: s111 :: s112 :: s113 :: s114 :: s115 :: s116 :: s117 :: s118 :: s119 :: s120 :: s121 :: s122 :: s123 :: s124 :: s125 :: s126 :: s127 :: s128 :: s129 :: s130 :: s131 :: s132 :: s133 :: s134 :: s135 :: s136 :: s137 :: s138 :: s139 :: s140 :: s141 :: s142 :: s143 :: s144 :: s145 :: s146 :: s147 :: s148 :: s149 :: s150 :: s151 :: s152 :: s153 :: s154 :: s155 :: s156 :: s157 :: s158 :: s159 :: s160 :: s161 :: s162 :: s163 :: s164 :: s165 :: s166 :: s167 :: s168 :: s169 :: s170 :: s171 :: s172 :: s173 :: s174 :: s175 :: s176 :: s177 :: s178 :: s179 :: []), []⟩ W := by
  rcases sets_r7_form hV with ⟨e, rfl⟩ | ⟨b, o, c, e, hlc⟩
  · injection e with e1 e2 e3
    subst e1 e3
    obtain rfl : k = 0 := by simpa using hk
    exact sets_r7n W Q hQ
  · injection e with e1 e2 e3
    subst e1 e3
    exact sets_r7s b o ca k A W Q hV hk hlc hlen hQ

theorem less_at {a b : Req} (h : cmpR a b < 0) (w : World) : Calls Tryd.prog 16 #[a.val, b.val] w fun x w' => x = .returned (.bool true) ∧ RowKit.Below w.heap.size w w' := by
  have := rqLess_any a b w
  rwa [show lessR a b = true from decide_eq_true h] at this
theorem row_at_o {w : World} {g o cap k : Nat} {L : List Req} {x : Req} (h : ReqsIn w (.slice (some ⟨g, o, none⟩) L.length cap) L) (hx : L[k]? = some x) : ReqAt w g (o + k * 9) x := by
  obtain ⟨b, o', c, hv, _, _, hat⟩ := h.at_ (by have := (List.getElem?_eq_some_iff.1 hx).1; omega)
  have e1 := (Value.slice.inj hv).1
  simp only [Option.some.injEq, Addr.mk.injEq, and_true] at e1
  obtain ⟨rfl, rfl⟩ := e1
  exact hat k x hx
theorem st_keep {W w w' : World} {v : Value} {L : List Req} (h : RowKit.Below W.heap.size W w ∧ ReqsIn w v L) (hb : RowKit.Below w.heap.size w w') : RowKit.Below W.heap.size W w' ∧ ReqsIn w' v L := ⟨below_next h.1 hb, h.2.below hb⟩

set_option maxHeartbeats 4000000 in
set_option maxRecDepth 100000 in
theorem sets_r13 {s0 s1 s2 s3 s4 s5 s6 s7 s8 s10 s11 s12 s13 s15 s16 s17 s18 s19 s20 s21 s22 s23 s24 s25 s26 s27 s28 s29 s30 s31 s32 s33 s34 s35 s36 s37 s38 s39 s40 s41 s42 s43 s44 s45 s46 s47 s48 s49 s50 s51 s52 s53 s54 s55 s56 s57 s58 s59 s60 s61 s62 s63 s64 s65 s66 s67 s68 s69 s70 s71 s72 s73 s74 s75 s76 s77 s78 s79 s80 s81 s82 s83 s84 s85 s86 s87 s88 s89 s90 s91 s92 s93 s94 s95 s96 s97 s98 s99 s100 s101 s102 s103 s104 s105 s106 s107 s108 s109 s110 s111 s112 s113 s114 s115 s116 s117 s118 s119 s120 s121 s122 s123 s124 s125 s126 s127 s128 s129 s130 s131 s132 s133 s134 s135 s136 s137 s138 s139 s140 s141 s142 s143 s144 s145 s146 s147 s148 s149 s150 s151 s152 s153 s154 s155 s156 s157 s158 s159 s160 s161 s162 s163 s164 s165 s166 s167 s168 s169 s170 s171 s172 s173 s174 s175 s176 s177 s178 s179 : Value} (b o c i : Nat) (A : List Req) (x y : Req) (W : World) (Q : Exit → Act → World → Prop) (hV : ReqsIn W (.slice (some ⟨b, o, none⟩) A.length c) A) (hi0 : 0 < i) (hi : i < A.length) (hlen : A.length ≤ 100000) (hx : A[i - 1]? = some x) (hy : A[i]? = some y) (hxy : cmpR x y < 0)
    (hQ : ∀ (u101 u102 u103 u104 u105 u106 u107 u108 u109 u110 : Value) (wx : World), RowKit.Below W.heap.size W wx → Q .normal ⟨List.toArray (s0 :: s1 :: s2 :: s3 :: s4 :: s5 :: s6 :: s7 :: s8 :: .slice (some ⟨b, o, none⟩) A.length c :: s10 :: s11 :: s12 :: s13 :: .int .i64 i :: s15 :: s16 :: s17 :: s18 :: s19 :: s20 :: s21 :: s22 :: s23 :: s24 :: s25 :: s26 :: s27 :: s28 :: s29 :: s30 :: s31 :: s32 :: s33 :: s34 :: s35 :: s36 :: s37 :: s38 :: s39 :: s40 :: s41 :: s42 :: s43 :: s44 :: s45 :: s46 :: s47 :: s48 :: s49 :: s50 :: s51 :: s52 :: s53 :: s54 :: s55 :: s56 :: s57 :: s58 :: s59 :: s60 :: s61 :: s62 :: s63 :: s64 :: s65 :: s66 :: s67 :: s68 :: s69 :: s70 :: s71 :: s72 :: s73 :: s74 :: s75 :: s76 :: s77 :: s78 :: s79 :: s80 :: s81 :: s82 :: s83 :: s84 :: s85 :: s86 :: s87 :: s88 :: s89 :: s90 :: s91 :: s92 :: s93 :: s94 :: s95 :: s96 :: s97 :: s98 :: s99 :: s100 :: u101 :: u102 :: u103 :: u104 :: u105 :: u106 :: u107 :: u108 :: u109 :: u110 :: .bool false :: s112 :: s113 :: s114 :: s115 :: s116 :: s117 :: s118 :: s119 :: s120 :: s121 :: s122 :: s123 :: s124 :: s125 :: s126 :: s127 :: s128 :: s129 :: s130 :: s131 :: s132 :: s133 :: s134 :: s135 :: s136 :: s137 :: s138 :: s139 :: s140 :: s141 :: s142 :: s143 :: s144 :: s145 :: s146 :: s147 :: s148 :: s149 :: s150 :: s151 :: s152 :: s153 :: s154 :: s155 :: s156 :: s157 :: s158 :: s159 :: s160 :: s161 :: s162 :: s163 :: s164 :: s165 :: s166 :: s167 :: s168 :: s169 :: s170 :: s171 :: s172 :: s173 :: s174 :: s175 :: s176 :: s177 :: s178 :: s179 :: []), []⟩ wx) :
    (regionOf Tryd.f6 13).wp Tryd.prog Q ⟨List.toArray (s0 :: s1 :: s2 :: s3 :: s4 :: s5 :: s6 :: s7 :: s8 :: .slice (some ⟨b, o, none⟩) A.length c :: s10 :: s11 :: s12 :: s13 :: .int .i64 i :: s15 :: s16 :: s17 :: s18 :: s19 :: s20 :: s21 :: s22 :: s23 :: s24 :: s25 :: s26 :: s27 :: s28 :: s29 :: s30 :: s31 :: s32 :: s33 :: s34 :: s35 :: s36 :: s37 :: s38 :: s39 :: s40 :: s41 :: s42 :: s43 :: s44 :: s45 :: s46 :: s47 :: s48 :: s49 :: s50 :: s51 :: s52 :: s53 :: s54 :: s55 :: s56 :: s57 :: s58 :: s59 :: s60 :: s61 :: s62 :: s63 :: s64 :: s65 :: s66 :: s67 :: s68 :: s69 :: s70 :: s71 :: s72 :: s73 :: s74 :: s75 :: s76 :: s77 :: s78 :: s79 :: s80 :: s81 :: s82 :: s83 :: s84 :: s85 :: s86 :: s87 :: s88 :: s89 :: s90 :: s91 :: s92 :: s93 :: s94 :: s95 :: s96 :: s97 :: s98 :: s99 :: s100 :: s101 :: s102 :: s103 :: s104 :: s105 :: s106 :: s107 :: s108 :: s109 :: s110 :: s111 :: s112 :: s113 :: s114 :: s115 :: s116 :: s117 :: s118 :: s119 :: s120 :: s121 :: s122 :: s123 :: s124 :: s125 :: s126 :: s127 :: s128 :: s129 :: s130 :: s131 :: s132 :: s133 :: s134 :: s135 :: s136 :: s137 :: s138 :: s139 :: s140 :: s141 :: s142 :: s143 :: s144 :: s145 :: s146 :: s147 :: s148 :: s149 :: s150 :: s151 :: s152 :: s153 :: s154 :: s155 :: s156 :: s157 :: s158 :: s159 :: s160 :: s161 :: s162 :: s163 :: s164 :: s165 :: s166 :: s167 :: s168 :: s169 :: s170 :: s171 :: s172 :: s173 :: s174 :: s175 :: s176 :: s177 :: s178 :: s179 :: []), []⟩ W := by
  refine of_onlyN (K := Q .normal) ?_ (fun _ _ h => h)
  generalize Q .normal = K at hQ ⊢
  have HQ := Lib.hid hQ; clear hQ
  conv => arg 2; whnf
  have HX := Lib.hid hx
  have HY := Lib.hid hy
  have HL := Lib.hid hxy
  have hkz : IntKind.i64.wrap ((i : Int) - 1) = ((i - 1 : Nat) : Int) := by rw [IntWalk.i64_in _ (by omega)]; omega
  have hkb : (0 : Int) ≤ ((i - 1 : Nat) : Int) := by omega
  have hkc : ((i - 1 : Nat) : Int) < (A.length : Int) := by omega
  have hkd : (i : Int) < (A.length : Int) := by omega
  clear hx hy hxy
  have hS0 : RowKit.Below W.heap.size W W.drew ∧ ReqsIn W.drew (.slice (some ⟨b, o, none⟩) A.length c) A := ⟨(Below.refl _ _).drew, hV⟩
  refine of_onlyN ?_ (fun _ _ h => h)
  refine wp_region_flow (S := fun w' => RowKit.Below W.heap.size W w' ∧ ReqsIn w' (.slice (some ⟨b, o, none⟩) A.length c) A) [(0, true), (1, true), (2, true), (3, true), (4, true), (5, true), (6, true), (7, true), (8, true), (9, false), (10, true)] (by kernel_rfl) (by kernel_rfl) (by kernel_rfl) (by decide) (hS0) ?_
  have hS := hS0
  refine flow_take ⟨some 101, _, _, _, _, _⟩ ?_ rfl (by rfl) ?_ ?_
  rotate_left 1
  · intro w hSw; (try dsimp only at hSw); go_simp; (try with_reducible rfl)
  simp only [Act.put, List.setIfInBounds_toArray, List.set_cons_zero, List.set_cons_succ]
  refine flow_take ⟨some 102, _, _, _, _, _⟩ ?_ rfl (by rfl) ?_ ?_
  rotate_left 1
  · intro w hSw; (try dsimp only at hSw); go_simp; (try with_reducible rfl)
  simp only [Act.put, List.setIfInBounds_toArray, List.set_cons_zero, List.set_cons_succ]
  refine flow_take ⟨some 103, _, _, _, _, _⟩ ?_ rfl (by rfl) ?_ ?_
  rotate_left 1
  · intro w hSw; (try dsimp only at hSw); go_simp; (try with_reducible rfl)
  simp only [Act.put, List.setIfInBounds_toArray, List.set_cons_zero, List.set_cons_succ]
  refine flow_take ⟨some 104, _, _, _, _, _⟩ ?_ rfl (by rfl) ?_ ?_
  rotate_left 1
  · intro w hSw; (try dsimp only at hSw); go_simp; (try with_reducible rfl)
  simp only [Act.put, List.setIfInBounds_toArray, List.set_cons_zero, List.set_cons_succ]
  refine flow_req_at ⟨some 105, _, _, _, _, _⟩ x b (o + (i - 1) * 9) rfl (by rfl) (.tmp 104) (by rfl) (by rfl) (fun w hS => row_at_o hS.2 HX.out) ?_
  (try simp only [Act.put, List.setIfInBounds_toArray, List.set_cons_zero, List.set_cons_succ])
  refine flow_take ⟨some 106, _, _, _, _, _⟩ ?_ rfl (by rfl) ?_ ?_
  rotate_left 1
  · intro w hSw; (try dsimp only at hSw); go_simp; (try with_reducible rfl)
  simp only [Act.put, List.setIfInBounds_toArray, List.set_cons_zero, List.set_cons_succ]
  refine flow_take ⟨some 107, _, _, _, _, _⟩ ?_ rfl (by rfl) ?_ ?_
  rotate_left 1
  · intro w hSw; (try dsimp only at hSw); go_simp; (try with_reducible rfl)
  simp only [Act.put, List.setIfInBounds_toArray, List.set_cons_zero, List.set_cons_succ]
  refine flow_take ⟨some 108, _, _, _, _, _⟩ ?_ rfl (by rfl) ?_ ?_
  rotate_left 1
  · intro w hSw; (try dsimp only at hSw); go_simp; (try with_reducible rfl)
  simp only [Act.put, List.setIfInBounds_toArray, List.set_cons_zero, List.set_cons_succ]
  refine flow_req_at ⟨some 109, _, _, _, _, _⟩ y b (o + i * 9) rfl (by rfl) (.tmp 108) (by rfl) (by rfl) (fun w hS => row_at_o hS.2 HY.out) ?_
  (try simp only [Act.put, List.setIfInBounds_toArray, List.set_cons_zero, List.set_cons_succ])
  refine flow_call ⟨some 110, _, _, _, _, _⟩ rfl (by rfl) 16 _ _ (by rfl) _ (by rfl) Tryd.call16 (less_at HL.out _) ?_; rintro x wn ⟨rfl, hb⟩; replace hS := st_keep hS hb; refine ⟨_, rfl, hS, ?_⟩; (try clear hb)
  simp only [Act.put, List.setIfInBounds_toArray, List.set_cons_zero, List.set_cons_succ]
  refine flow_take ⟨some 111, _, _, _, _, _⟩ ?_ rfl (by rfl) ?_ ?_
  rotate_left 1
  · intro w hSw; (try dsimp only at hSw); go_simp; (try with_reducible rfl)
  simp only [Act.put, List.setIfInBounds_toArray, List.set_cons_zero, List.set_cons_succ]
  simp only [wpFlow, OnlyN]
  exact HQ.out _ _ _ _ _ _ _ _ _ _ _ hS.1
end Go.Proofs.YtanmmooflhomoaaDoor
