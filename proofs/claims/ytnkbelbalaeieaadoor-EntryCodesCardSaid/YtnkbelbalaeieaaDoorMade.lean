/- quadriviumref10.Made: a list of right entries. -/
import Derived.Test.YtnkbelbalaeieaaDoorMadeP
namespace Go.Proofs.YtnkbelbalaeieaaDoor
open Go Go.RowKit Go.Sort Go.Lib
attribute [local go_sem] Ent.cells
attribute [local go_sem] setCell_size
set_option maxHeartbeats 8000000 in
set_option maxRecDepth 100000 in
theorem made_any (A : Option Addr) (n c : Nat) (sc : Int) (w : World) (hsc : 1 ≤ sc ∧ sc ≤ 100) (hi : IntsIn w.heap.size A n w) :
    Calls Tryd.prog 22 #[.slice A n c, .int .i64 sc] w (MadePost sc w) := by
  go_enter Tryd.func22, Tryd.ntmps22
  go_wp2_with fail
  have hm0 : MR w A n c (.slice none 0 0) [] (w.alloc (.cells #[.slice A n c, .int .i64 0] 77)) :=
    ⟨below_alloc1 _ _, World.ownsRow_nil _ _ _ _, ⟨0, Nat.zero_le _, heap_alloc_new _ _⟩, hi.below (below_alloc1 _ _)⟩
  refine (next_st w.heap.size A n c 25 _ (by omega) (by omega) hm0.draw hm0.ints).mono ?_
  rintro x w1 ⟨many, rfl, hmany, hd1, ho1⟩
  have hm1 := hm0.only hd1 ho1
  clear hm0 hd1 ho1
  go_wp2_with fail
  go_loopw [6, 7, 9] (fun v D i wr => ∃ (k day : Nat) (es : List Ent), k ≤ many ∧ i = .int .i64 k ∧ D = .int .i64 day ∧ day ≤ 24 * k ∧ es.length = k ∧ MadeOk sc es ∧ (∀ e ∈ es, e.day ≤ day) ∧ MR w A n c v es wr) (fun _ _ i _ => many - (intOf i).toNat)
  case atStart => exact ⟨0, 0, [], Nat.zero_le _, rfl, rfl, by omega, rfl, ⟨by simp, by simp, by simp, by simp⟩, by simp, hm1⟩
  case round =>
    obtain ⟨k, day, es, hk, rfl, rfl, hday, hlen, hok, hdays, hm⟩ := hrel
    clear hm1
    by_cases hlt : k < many
    · go_wp2_with fail
      refine (next_st w.heap.size A n c 25 _ (by omega) (by omega) hm.draw hm.ints).mono ?_
      rintro x w2 ⟨dd, rfl, hdd, hd2, ho2⟩
      have hm2 := hm.only hd2 ho2
      clear hm hd2 ho2
      go_wp2_with fail
      refine (next_st w.heap.size A n c 3 _ (by omega) (by omega) hm2.draw hm2.ints).mono ?_
      rintro x w3 ⟨st, rfl, hst, hd3, ho3⟩
      have hm3 := hm2.only hd3 ho3
      clear hm2 hd3 ho3
      go_wp2_with fail
      obtain ⟨e0, he0⟩ : ∃ e0 : Ent, e0 = ⟨k + 1, sc, 1 + st, 0, day + dd, 0, ⟨#[]⟩, 0, 0, 0, 0, 0, 0, 0, ⟨#[]⟩⟩ := ⟨_, rfl⟩
      have hbx : EntBox ((w3.alloc (.cells (Ent.cells ⟨k + 1, sc, 1 + st, 0, day + dd, 0, ⟨#[]⟩, 0, 0, 0, 0, 0, 0, 0, ⟨#[]⟩⟩) 26)).alloc (.cells (kindL.map (Value.int .i64)).toArray 3)) w3.heap.size e0 := by rw [he0]; exact (EntBox.new w3 _).below (below_alloc1 _ _)
      have hrw : IntRow ((w3.alloc (.cells (Ent.cells ⟨k + 1, sc, 1 + st, 0, day + dd, 0, ⟨#[]⟩, 0, 0, 0, 0, 0, 0, 0, ⟨#[]⟩⟩) 26)).alloc (.cells (kindL.map (Value.int .i64)).toArray 3)) (w3.heap.size + 1) kindL := by
        have := IntRow.new (w3.alloc (.cells (Ent.cells ⟨k + 1, sc, 1 + st, 0, day + dd, 0, ⟨#[]⟩, 0, 0, 0, 0, 0, 0, 0, ⟨#[]⟩⟩) 26)) kindL
        rw [size_alloc] at this
        exact this
      have hm4 := (hm3.below' (below_alloc1 w3 (.cells (Ent.cells ⟨k + 1, sc, 1 + st, 0, day + dd, 0, ⟨#[]⟩, 0, 0, 0, 0, 0, 0, 0, ⟨#[]⟩⟩) 26))).below' (below_alloc1 _ (.cells (kindL.map (Value.int .i64)).toArray 3))
      have hfr : u6.ownBlock ≠ some w3.heap.size := fun e => absurd (hm3.ents.lt _ e).2 (by omega)
      have hlt3 : w.heap.size < w3.heap.size := by
        obtain ⟨q, _, hq⟩ := hm3.draw
        exact lt_of_heap hq
      generalize w3.heap.size = eb at *
      clear hm3
      refine (next_st w.heap.size A n c 15 _ (by omega) (by omega) hm4.draw hm4.ints).mono ?_
      rintro x w5 ⟨ki, rfl, hki, hd5, ho5⟩
      have hm5 := hm4.only hd5 ho5
      have hbx5 := hbx.only ho5 (by omega)
      have hrw5 := hrw.only ho5 (by omega)
      clear hm4 hd5 ho5 hbx hrw
      have hcell := hrw5.cell (k := ki) (show ki < kindL.length from hki)
      have hkr := kindL_range ki hki
      generalize kindL.getD ki 0 = kd at hcell hkr
      have hf3 := hbx5.frozen 3
      have hc3 : w5.cell? ⟨eb, 3, none⟩ = some (.int .i64 e0.kind) := hbx5.cell 3
      go_wp2_with fail
      clear hcell hrw5 hf3 hc3
      have hm6 := hm5.set hlt3 hfr 3 (.int .i64 kd)
      have hbx6 := hbx5.set (e' := { e0 with kind := kd }) 3 (.int .i64 kd) rfl
      generalize w5.setCell ⟨eb, 3, none⟩ (.int .i64 kd) = w6 at *
      clear hm5 hbx5
      refine (next_st w.heap.size A n c 3 _ (by omega) (by omega) hm6.draw hm6.ints).mono ?_
      rintro x w7 ⟨ea, rfl, hea, hd7, ho7⟩
      have hm7 := hm6.only hd7 ho7
      have hbx7 := hbx6.only ho7 (by omega)
      clear hm6 hbx6 hd7 ho7
      go_wp2_with fail
      refine (next_st w.heap.size A n c 120 _ (by omega) (by omega) hm7.draw hm7.ints).mono ?_
      rintro x w8 ⟨eb2, rfl, heb2, hd8, ho8⟩
      have hm8 := hm7.only hd8 ho8
      have hbx8 := hbx7.only ho8 (by omega)
      clear hm7 hbx7 hd8 ho8
      have hmul : ea * eb2 ≤ 2 * 119 := Nat.mul_le_mul (by omega) (by omega)
      have hmw : IntKind.i64.wrap ((ea : Int) * (eb2 : Int)) = ((ea * eb2 : Nat) : Int) := by rw [← Int.natCast_mul]; exact IntWalk.i64_in _ (by omega)
      go_wp2_with fail
      have hea3 : (ea : Int) * (eb2 : Int) = ((ea * eb2 : Nat) : Int) := (Int.natCast_mul _ _).symm
      rw [hea3]
      generalize ea * eb2 = early at hmul
      clear hea3 hmw hea heb2
      refine (next_st w.heap.size A n c 30 _ (by omega) (by omega) hm8.draw hm8.ints).mono ?_
      rintro x w9 ⟨nn, rfl, hnn, hd9, ho9⟩
      have hm9 := hm8.only hd9 ho9
      have hbx9 := hbx8.only ho9 (by omega)
      clear hm8 hbx8 hd9 ho9
      subst he0
      have hlt9 := lt_of_heap hbx9
      have hkk : kd = 1 ∨ kd = 2 ∨ kd = 3 ∨ kd = 4 ∨ kd = 5 ∨ kd = 6 ∨ kd = 7 ∨ kd = 8 ∨ kd = 9 := by omega
      have hd' : ∀ e ∈ es, e.day ≤ ((day : Int) + (dd : Int)) := fun e he => by have := hdays e he; omega
      have hlen' : es.length ≤ 1000 := by omega
      have c3 : w9.cell? ⟨eb, 3, none⟩ = some (.int .i64 kd) := hbx9.cell 3
      go_upto_block 2 with fail
      clear c3
      refine made_sw w A n c u6 es eb (k + 1) sc (1 + st) (day + dd) k many early nn kd _ _ (by omega) (by omega) hsc hok hlt3 hfr hkk hbx9 hm9 hlt9 ?_
      intro u51 u52 u53 u54 u55 u56 u57 u58 u59 u60 u61 u62 u63 u64 u65 u66 u67 u68 u69 u70 u71 u72 u73 u74 u75 u76 u77 u78 u79 u80 u81 u82 u83 u84 u85 u86 u87 u88 u89 u90 u91 u92 u93 u94 u95 u96 u97 u98 wa hcut
      clear hm9 hbx9 hlt9
      obtain ⟨rf, fr, pg, vs, hbxA, hmA, hsw, hltA⟩ := hcut
      have HSW := Lib.hid hsw; clear hsw
      go_upto_region 29 with fail
      refine made_r29 w A n c u6 es eb (k + 1) sc (1 + st) (day + dd) k many early nn kd rf fr pg vs _ _ (by omega) (by omega) hsc hok hlt3 hfr hkk hbxA ?_
      rintro u99 u100 u101 u102 u103 u104 u105 u106 u107 u108 u109 u110 u111 u112 u113 u114 u115 u116 wx rfl
      go_upto_region 30 with fail
      refine made_r30 w A n c u6 es eb (k + 1) sc (1 + st) (day + dd) k many early nn kd rf fr pg vs _ _ (by omega) (by omega) hsc hok hlt3 hfr hbxA ?_
      rintro u117 u118 u119 u120 u121 B wx ⟨rfl, HB⟩
      go_upto_if 122 with fail
      refine made_c122 w A n c u6 es eb (k + 1) sc (1 + st) (day + dd) k many early nn kd rf fr pg vs B _ _ (by omega) (by omega) hsc hok hlt3 hfr hkk hbxA hmA HSW hltA HB ?_
      intro u123 wb hcut
      clear hbxA hmA HSW hltA hkk hkr HB
      obtain ⟨kd, rf, fr, pg, vs, hbxA, hmA, hsw, hltA⟩ := hcut
      have HSW := Lib.hid hsw; clear hsw
      have c3 : wb.cell? ⟨eb, 3, none⟩ = some (.int .i64 kd) := hbxA.cell 3
      go_upto_if 126 with fail
      refine made_c126 w A n c u6 es eb (k + 1) sc (1 + st) (day + dd) k many early nn kd rf fr pg vs _ _ (by omega) (by omega) hsc hok hlt3 hfr hbxA hmA HSW hltA ?_
      intro u127 u128 u129 u130 u131 u132 u133 u134 u135 u136 u137 u138 wd hcut
      clear hbxA hmA HSW hltA c3
      obtain ⟨kd, co, cr, rf, fr, pg, vs, hbxA, hmA, hsw, hco, hltA⟩ := hcut
      have HSW := Lib.hid hsw; clear hsw
      have HCO := Lib.hid hco; clear hco
      go_upto_region 35 with fail
      refine made_r35 w A n c u6 es eb (k + 1) sc (1 + st) (day + dd) k many early nn kd cr rf fr pg vs co _ _ (by omega) (by omega) hsc hok hlt3 hfr hbxA ?_
      rintro u139 u140 u141 u142 u143 u144 u145 B wx ⟨rfl, HB⟩
      go_upto_if 146 with fail
      refine made_c146 w A n c u6 es eb (k + 1) sc (1 + st) (day + dd) k many early nn kd cr rf fr pg vs co B _ _ (by omega) (by omega) hsc hok hlt3 hfr hbxA hmA HSW HCO hltA HB ?_
      intro u147 u148 u149 u150 u151 u152 u153 u154 u155 u156 u157 u158 u159 u160 u161 u162 u163 u164 u165 we hcut
      clear hbxA hmA HSW HCO hltA HB
      obtain ⟨kd, co, cr, gr, rf, fr, pg, vs, hbxA, hmA, hsw, hco, hgr, hltA⟩ := hcut
      have HG := Lib.hid (good_of (day + dd) hsw hco hgr)
      clear hsw hco hgr
      have c9 : we.cell? ⟨eb, 9, none⟩ = some (.int .i64 rf) := hbxA.cell 9
      have c5 : we.cell? ⟨eb, 5, none⟩ = some (.int .i64 0) := hbxA.cell 5
      have fz := hbxA.frozen 5
      go_wp2_with fail
      refine (on_mr w A n c u6 es _ sc (day + dd) _ (by omega) hd' hok hmA).mono ?_
      rintro x w13 ⟨on, rfl, hon1, hon2, rfl⟩
      obtain ⟨m, hm0, hmD, hmx⟩ := max3 on (day + dd - early) (day + dd) hon2 (by omega) (by omega)
      have hM' := hmA.set hlt3 hfr 5 (.int .i64 m)
      have hE : EntBox _ eb (mkE (k + 1) sc (1 + st) kd (day + dd) m co cr gr rf fr pg vs) := hbxA.set 5 (.int .i64 m) rfl
      have hat := hE.at_
      clear hE
      go_wp2_with (first | ((with_reducible refine wpList_load_mid (op := ⟨some 176, _, _, _, _, _⟩) ?_ 26 (.tmp 10) ?_ eb 0 ?_ (Ent.cells (mkE (k + 1) sc (1 + st) kd (day + dd) m co cr gr rf fr pg vs)).toList _ ?_ Tryd.underlying26 ?_ ?_ ?_); rfl; rfl; rfl; exact hat; rfl; kernel_rfl) | ((with_reducible refine id_at (o := ⟨some 177, _, _, _, _, _⟩) ?_); refine bs_ent rfl rfl rfl ?_) | (at_builtin; refine app_ent rfl (.tmp 175) (.tmp 177) rfl w.heap.size u6 es rfl hM'.ents (mkE (k + 1) sc (1 + st) kd (day + dd) m co cr gr rf fr pg vs) _ (by simp) rfl (by omega) hM'.below.size ?_; intro v' w14 hown' hg'))
      have hM2 := hM'.append hown' hg'
      have HG2 := HG.out (k + 1) (1 + st) m (by omega) (by omega) (by omega)
      clear hM' hmx hown' hg' hat HG
      go_wp2_with fail
      go_roundw
      case rel => exact ⟨k + 1, day + dd, _, by omega, by go_num, by go_num, by omega, by simp [hlen], hok.snoc (by omega) HG2 (by simp [hlen, mkE]) hd', by simp only [List.mem_append, List.mem_singleton]; rintro a (ha | rfl); exact hd' a ha; simp [mkE], hM2⟩
      case measure => simp [intOf]; omega
    · obtain rfl : k = many := by omega
      go_wp2_with fail
      go_ret
      exact ⟨u6, es, rfl, hok, hm.ents, hm.below⟩
end Go.Proofs.YtnkbelbalaeieaaDoor
