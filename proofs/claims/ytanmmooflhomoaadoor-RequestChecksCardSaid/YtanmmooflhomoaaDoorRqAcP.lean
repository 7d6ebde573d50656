/- The law RequestActive: keys of two ints in a map of its own; a region as a piece. -/
import Derived.Test.YtanmmooflhomoaaDoorRqSan
import Derived.Test.YtanmmooflhomoaaDoorRqPutR
import Derived.Deep.RegionHeld3
namespace Go.Proofs.YtanmmooflhomoaaDoor
open Go Go.Proofs Go.RowKit Go.Maps Go.Sort Go.Lib
attribute [local go_sem] Req.cells

theorem wpList_lookup_own_bool_g {P : Program} (w : World) {ops : Array Oper} {rest : List Oper} {o : Oper} {a : Act} {Q : Exit → Act → World → Prop}
    (hw : Region.wanted o (yielded ops a.tmps) = true) (m x : Operand) (t : TypeId) (hop : o.op = Op.lookup t m x false)
    (k e : TypeId) (K : Keyed P k) (ht : P.underlying t = some (.map k e)) (he : P.underlying e = some .bool) (hz : (zeroValue e).run P w = .ok (.bool false) w) (b n : Nat) (D : DataW Unit)
    (hm : a.eval m = .map (some b)) (hown : w.ownsMap P k (plainElem P e) b n D) (key : Value) (kl : Lit) (hx : a.eval x = key) (hkey : keyOf P k key = some kl) (c : Bool) (hat : D.atKey kl (.lit (.bool false)) = .lit (.bool c))
    (hK : wpList P ops Q rest (a.put o.dst (.bool c)) w) :
    wpList P ops Q (o :: rest) a w := by
  refine wpList_step fun K' hK' => ?_
  rw [if_pos hw]
  obtain ⟨v, ps, hrun, hv⟩ := hown.lookup K ht hz (plainElem_bool he false) hkey
  rw [hat] at hv
  have hvb : v = .bool c := by
    unfold plainElem at hv
    rw [he] at hv
    cases v <;> simp at hv
    rw [hv.1]
  subst hvb
  unfold Oper.wp
  simp [execOp, hop, hm, hx, hrun, Result.andThen]
  exact hK' _ _ hK
theorem arr_keyed : Maps.Keyed Tryd.prog 35 :=
  Maps.Keyed.of_law (deep_law_laid rq_laidOut (m := 2) (by omega) (of_decide_eq_true (by kernel_rfl)) (by kernel_rfl) (by rw [Tryd.underlying35]))
set_option maxRecDepth 100000 in
theorem key_arr (s q : Int) (hs : (Lit.int .i64 s).wf = true) (hq : (Lit.int .i64 q).wf = true) : keyOf Tryd.prog 35 (.agg #[.int .i64 s, .int .i64 q]) = some (litK s q) := by
  have hn : Tryd.prog.cellsOf 35 = 2 := by kernel_rfl
  have c1 : Tryd.prog.cellsOf 3 = 1 := by kernel_rfl
  have hk : Tryd.prog.keyType 35 = true := by kernel_rfl
  obtain ⟨sz, hsz⟩ : ∃ sz, Tryd.prog.types.size = sz + 1 := ⟨Tryd.prog.types.size - 1, by kernel_rfl⟩
  unfold keyOf
  rw [Tryd.underlying35]
  simp only [hk, Value.formed, Tryd.underlying35, hn]
  unfold Program.keyLits
  rw [Tryd.underlying35, hsz]
  simp [hn, c1, Value.cells, lits_int, hs, hq, litK, List.range, List.range.loop]
theorem small_num {r : Req} (h : r.Small) : (Lit.int .i64 r.server).wf = true ∧ (Lit.int .i64 r.seq).wf = true := ⟨h.wf.1, h.wf.2.1⟩
theorem own_laid_at (w : World) (L : List Req) (base b : Nat) (h : w.heap.size = b) (hb : base ≤ b) (hL : L.length ≤ 1000000) : (w.alloc (.cells (reqCells L).toArray 34)).ownsRow base 34 9 (.slice (some ⟨b, 0, none⟩) L.length L.length) L.length (reqCells L) := by
  subst h
  exact ⟨reqCells_len L, .inr ⟨w.heap.size, L.length, _, rfl, hb, heap_alloc_new w _, Nat.le_refl _, by unfold maxLen; omega, by simp [reqCells_len], by simp [← reqCells_len]⟩⟩
/-- What is active of a list. -/
def ActIs (L : List Req) (v : Value) (w : World) : Prop := ∃ M, IsSet M L ∧ (actR M).length ≤ L.length ∧ ReqsIn w v (actR M)
theorem act_is (L : List Req) (v : Value) (w : World) (hv : ReqsIn w v L) (hl : L.length ≤ 1000000) (hs : ∀ r ∈ L, r.Small) :
    Calls Tryd.prog 9 #[v] w fun x w' => ∃ v', x = .returned v' ∧ ActIs L v' w' ∧ RowKit.Below w.heap.size w w' := by
  refine (active_any v L w hv hl (small_l L hs)).mono ?_
  rintro x w' ⟨v', M, rfl, hM, hr, hb⟩
  exact ⟨v', rfl, ⟨M, hM, Nat.le_trans (keepR_len _ _) (isSet_len hM), reqsIn_own hr⟩, hb⟩
theorem ActIs.below {L : List Req} {v : Value} {w w' : World} (h : ActIs L v w) (hb : RowKit.Below w.heap.size w w') : ActIs L v w' := by
  obtain ⟨M, h1, h2, h3⟩ := h
  exact ⟨M, h1, h2, h3.below hb⟩

set_option maxHeartbeats 4000000 in
set_option maxRecDepth 100000 in
theorem act_r17 {s0 s1 s2 s3 s4 s5 s6 s8 s9 s10 s11 s12 s14 s15 s16 s17 s18 s19 s20 s21 s22 s23 s24 s25 s26 s27 s28 s29 s30 s31 s32 s33 s34 s35 s36 s37 s38 s39 s40 s41 s42 s43 s44 s45 s46 s47 s48 s49 s50 s51 s52 s53 s54 s55 s56 s57 s58 s59 s60 s61 s62 s63 s64 s65 s66 s67 s68 s69 s70 s71 s72 s73 s74 s75 s76 s77 s78 s79 s80 s81 s82 s83 s84 s85 s86 s87 s88 s89 s90 s91 s92 s93 s94 s95 s96 s97 s98 s99 s100 s101 s102 s103 s104 s105 s106 s107 s108 s109 s110 s111 s112 s113 s114 s115 s116 s117 s118 s119 s120 s121 s122 s123 s124 s125 s126 s127 s128 s129 s130 s131 s132 s133 s134 s135 s136 s137 s138 s139 s140 s141 s142 s143 s144 s145 s146 s147 s148 s149 s150 s151 s152 s153 s154 s155 s156 s157 s158 s159 s160 s161 s162 s163 s164 s165 s166 s167 s168 s169 s170 s171 s172 s173 s174 s175 s176 s177 s178 s179 s180 s181 s182 s183 : Value} (va : Value) (eb : Nat) (L : List Req) (g : Req) (W : World) (Q : Exit → Act → World → Prop) (hV : ReqsIn W va L) (hbox : ReqBox W eb g) (hlen : L.length ≤ 100000) (hfit : ∀ r ∈ L ++ [g], r.Small)
    (hQ : ∀ (u15 u82 u83 u84 u85 u86 u87 u88 : Value) (wx : World), RowKit.Below W.heap.size W wx → ActIs (L ++ [g]) u15 wx → Q .normal ⟨List.toArray (s0 :: s1 :: s2 :: s3 :: s4 :: s5 :: s6 :: va :: s8 :: s9 :: s10 :: s11 :: s12 :: .pointer (some ⟨eb, 0, none⟩) :: s14 :: u15 :: s16 :: s17 :: s18 :: s19 :: s20 :: s21 :: s22 :: s23 :: s24 :: s25 :: s26 :: s27 :: s28 :: s29 :: s30 :: s31 :: s32 :: s33 :: s34 :: s35 :: s36 :: s37 :: s38 :: s39 :: s40 :: s41 :: s42 :: s43 :: s44 :: s45 :: s46 :: s47 :: s48 :: s49 :: s50 :: s51 :: s52 :: s53 :: s54 :: s55 :: s56 :: s57 :: s58 :: s59 :: s60 :: s61 :: s62 :: s63 :: s64 :: s65 :: s66 :: s67 :: s68 :: s69 :: s70 :: s71 :: s72 :: s73 :: s74 :: s75 :: s76 :: s77 :: s78 :: s79 :: s80 :: s81 :: u82 :: u83 :: u84 :: u85 :: u86 :: u87 :: u88 :: s89 :: s90 :: s91 :: s92 :: s93 :: s94 :: s95 :: s96 :: s97 :: s98 :: s99 :: s100 :: s101 :: s102 :: s103 :: s104 :: s105 :: s106 :: s107 :: s108 :: s109 :: s110 :: s111 :: s112 :: s113 :: s114 :: s115 :: s116 :: s117 :: s118 :: s119 :: s120 :: s121 :: s122 :: s123 :: s124 :: s125 :: s126 :: s127 :: s128 :: s129 :: s130 :: s131 :: s132 :: s133 :: s134 :: s135 :: s136 :: s137 :: s138 :: s139 :: s140 :: s141 :: s142 :: s143 :: s144 :: s145 :: s146 :: s147 :: s148 :: s149 :: s150 :: s151 :: s152 :: s153 :: s154 :: s155 :: s156 :: s157 :: s158 :: s159 :: s160 :: s161 :: s162 :: s163 :: s164 :: s165 :: s166 :: s167 :: s168 :: s169 :: s170 :: s171 :: s172 :: s173 :: s174 :: s175 :: s176 :: s177 :: s178 :: s179 :: s180 :: s181 :: s182 :: s183 :: []), []⟩ wx) :
    (regionOf Tryd.f3 17).wp Tryd.prog Q ⟨List.toArray (s0 :: s1 :: s2 :: s3 :: s4 :: s5 :: s6 :: va :: s8 :: s9 :: s10 :: s11 :: s12 :: .pointer (some ⟨eb, 0, none⟩) :: s14 :: s15 :: s16 :: s17 :: s18 :: s19 :: s20 :: s21 :: s22 :: s23 :: s24 :: s25 :: s26 :: s27 :: s28 :: s29 :: s30 :: s31 :: s32 :: s33 :: s34 :: s35 :: s36 :: s37 :: s38 :: s39 :: s40 :: s41 :: s42 :: s43 :: s44 :: s45 :: s46 :: s47 :: s48 :: s49 :: s50 :: s51 :: s52 :: s53 :: s54 :: s55 :: s56 :: s57 :: s58 :: s59 :: s60 :: s61 :: s62 :: s63 :: s64 :: s65 :: s66 :: s67 :: s68 :: s69 :: s70 :: s71 :: s72 :: s73 :: s74 :: s75 :: s76 :: s77 :: s78 :: s79 :: s80 :: s81 :: s82 :: s83 :: s84 :: s85 :: s86 :: s87 :: s88 :: s89 :: s90 :: s91 :: s92 :: s93 :: s94 :: s95 :: s96 :: s97 :: s98 :: s99 :: s100 :: s101 :: s102 :: s103 :: s104 :: s105 :: s106 :: s107 :: s108 :: s109 :: s110 :: s111 :: s112 :: s113 :: s114 :: s115 :: s116 :: s117 :: s118 :: s119 :: s120 :: s121 :: s122 :: s123 :: s124 :: s125 :: s126 :: s127 :: s128 :: s129 :: s130 :: s131 :: s132 :: s133 :: s134 :: s135 :: s136 :: s137 :: s138 :: s139 :: s140 :: s141 :: s142 :: s143 :: s144 :: s145 :: s146 :: s147 :: s148 :: s149 :: s150 :: s151 :: s152 :: s153 :: s154 :: s155 :: s156 :: s157 :: s158 :: s159 :: s160 :: s161 :: s162 :: s163 :: s164 :: s165 :: s166 :: s167 :: s168 :: s169 :: s170 :: s171 :: s172 :: s173 :: s174 :: s175 :: s176 :: s177 :: s178 :: s179 :: s180 :: s181 :: s182 :: s183 :: []), []⟩ W := by
  refine of_onlyN (K := Q .normal) ?_ (fun _ _ h => h)
  generalize Q .normal = K at hQ ⊢
  have HQ := Lib.hid hQ; clear hQ
  conv => arg 2; whnf
  have keepS : ∀ w', RowKit.Below W.heap.size W w' → RowKit.Below W.heap.size W w' ∧ (∀ j, w'.cell? ⟨eb, j, none⟩ = g.cells[j]?) := fun w' hb => ⟨hb, (hbox.below hb).cell⟩
  simp only [Req.cells] at keepS
  have hS0 := keepS _ (Below.refl W.heap.size W).drew
  have HF := Lib.hid hfit
  clear hfit
  go_region_held3 (fun w' => RowKit.Below W.heap.size W w' ∧ (∀ j, w'.cell? ⟨eb, j, none⟩ = g.cells[j]?)) (first | exact hS0 | assumption | (refine keepS _ ?_; (first | exact Below.refl _ _ | exact (Below.refl _ _).drew | exact below_alloc1 _ _ | exact (below_alloc1 _ _).drew | exact (below_alloc1 _ _).alloc (by simp <;> omega) _ | exact ((below_alloc1 _ _).alloc (by simp <;> omega) _).drew | exact hB3 | exact hB3.drew | exact hB2.drew | exact hB2.alloc hB2.size _ | exact (hB2.alloc hB2.size _).drew | exact hB1.alloc hB1.size _ | exact (hB1.alloc hB1.size _).drew | exact hB1.drew)))
    (first
    | ((refine step_append_reqs (by rfl) (.tmp 82) (.tmp 83) (by rfl) W.heap.size _ _ [] L (by rfl) (by rfl) ?_ ?_ ?_ ?_ ?_)
       · (first | exact World.ownsRow_made W #[] 0 (Nat.le_refl _) (Nat.zero_le _) rfl | exact (World.ownsRow_made W #[] 0 (Nat.le_refl _) (Nat.zero_le _) rfl).alloc _ | exact own_empty_at (W.alloc _) W.heap.size (W.heap.size + 1) (by simp) (by omega))
       · (refine hV.below ?_; (first | exact Below.refl _ _ | exact (Below.refl _ _).drew | exact below_alloc1 _ _ | exact (below_alloc1 _ _).drew | exact (below_alloc1 _ _).alloc (by simp <;> omega) _ | exact ((below_alloc1 _ _).alloc (by simp <;> omega) _).drew | exact hB3 | exact hB3.drew | exact hB2.drew | exact hB2.alloc hB2.size _ | exact (hB2.alloc hB2.size _).drew | exact hB1.alloc hB1.size _ | exact (hB1.alloc hB1.size _).drew | exact hB1.drew))
       · simp only [List.length_nil]; omega
       · (simp <;> omega)
       intro v1 w1 hown1 hg1
       have hB1 : RowKit.Below W.heap.size W w1 := by 
           (refine RowKit.Below.grown (w' := _) ?_ hg1 ?_ ?_)
           · (first | exact Below.refl _ _ | exact (Below.refl _ _).drew | exact below_alloc1 _ _ | exact (below_alloc1 _ _).drew | exact (below_alloc1 _ _).alloc (by simp <;> omega) _ | exact ((below_alloc1 _ _).alloc (by simp <;> omega) _).drew | exact hB3 | exact hB3.drew | exact hB2.drew | exact hB2.alloc hB2.size _ | exact (hB2.alloc hB2.size _).drew | exact hB1.alloc hB1.size _ | exact (hB1.alloc hB1.size _).drew | exact hB1.drew)
           · (simp <;> omega)
           · (intro q hq; injection hq with hq; subst hq; simp)
       have hS1 := keepS _ hB1
       first
         | (have h41 : ReqsIn w1 (.slice (some ⟨W.heap.size + 1, 0, none⟩) 1 1) [g] := ReqsIn.grown (show ReqsIn (World.drew ((W.alloc (.cells #[] 34)).alloc (.cells g.cells 34))) _ _ from reqs_one_at (W.alloc (.cells #[] 34)) g (W.heap.size + 1) (by simp)) hg1 (.inr fun e => absurd (show W.heap.size + 1 = W.heap.size from Option.some.inj e) (by omega)))
         | (have h41 : ReqsIn w1 (.slice (some ⟨W.heap.size, 0, none⟩) 1 1) [g] := at_c _ _ _ hg1)
         | skip)
    | ((refine step_append_reqs (by rfl) (.tmp 84) (.tmp 86) (by rfl) W.heap.size _ _ ([] ++ L) [g] (by rfl) (by rfl) ?_ ?_ ?_ ?_ ?_)
       · first | exact hown1 | exact hown1.alloc _
       · first | exact h41 | exact reqs_one_at _ g _ rfl
       · simp only [List.nil_append, List.length_cons, List.length_nil]; omega
       · have := hB1.size; simp; omega
       intro v2 w2 hown2 hg2
       have hB2 : RowKit.Below W.heap.size W w2 := by (refine RowKit.Below.grown (w' := _) ?_ hg2 ?_ (fun q hq => (hown1.lt q hq).1); (first | exact hB1 | exact hB1.alloc hB1.size _ | exact (hB1.alloc hB1.size _).drew | exact hB1.drew); (have := hB1.size; simp; omega))
       have hS2 := keepS _ hB2
       rw [List.nil_append] at hown2)
    | ((with_reducible refine (act_is (L ++ [g]) _ _ (reqsIn_own hown2) (by simp; omega) HF.out).mono ?_)
       rintro _ w3 ⟨v3, rfl, hA3, hb3⟩
       have hB3 : RowKit.Below W.heap.size W w3 := hB2.trans (hb3.mono hB2.size)
       have hS3 := keepS _ hB3))
  all_goals exact HQ.out _ _ _ _ _ _ _ _ _ (by first | exact hB3 | exact hB3.drew) (by first | exact hA3)
end Go.Proofs.YtanmmooflhomoaaDoor
