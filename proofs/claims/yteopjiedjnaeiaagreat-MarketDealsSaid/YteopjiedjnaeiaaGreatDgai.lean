/- Rows of requests: taken, dropped, kept; append in a drawn region. -/
import Derived.Test.YteopjiedjnaeiaaGreatDgah
import Derived.Test.YteopjiedjnaeiaaGreatDgae
import Derived.Test.YteopjiedjnaeiaaGreatDgaa
/- quadriviumref27.Made: a list of at most 16 requests, small ones. -/
namespace Go.Proofs.YteopjiedjnaeiaaGreat
open Go Go.RowKit Go.Sort Go.Lib
attribute [local go_sem] Req.cells
attribute [local go_sem] setCell_size

/-- What 'Made' leaves. -/
def MadePost (w : World) (x : Ending) (w' : World) : Prop := ∃ v es, x = .returned v ∧ es.length ≤ 16 ∧ (∀ e ∈ es, e.Small) ∧ w'.ownsRow w.heap.size 39 9 v es.length (reqCells es) ∧ RowKit.Below w.heap.size w w'
set_option maxHeartbeats 8000000 in
set_option maxRecDepth 100000 in
theorem made_any (B : Option Addr) (N C : Nat) (w : World) (hi : IntssIn w.heap.size B N w) :
    Calls Tryz.prog 16 #[.slice B N C] w (MadePost w) := by
  have HI := Lib.hid hi
  have hN := hi.1
  clear hi
  go_enter Tryz.func16, Tryz.ntmps16
  go_wp2_with fail
  go_loopw [3, 4] (fun v i wr => ∃ (k : Nat) (es : List Req), k ≤ N ∧ k ≤ 16 ∧ i = .int .i64 k ∧ Hid (es.length = k) ∧ Hid (∀ e ∈ es, e.Small) ∧ wr.ownsRow w.heap.size 39 9 v es.length (reqCells es) ∧ RowKit.Below w.heap.size w wr) (fun _ i _ => 16 - (RowKit.intOf i).toNat)
  case atStart => exact ⟨0, [], Nat.zero_le _, by omega, rfl, Lib.hid rfl, Lib.hid (by simp), World.ownsRow_nil _ _ _ _, Below.refl _ _⟩
  case round =>
    obtain ⟨k, es, hk, hk16, rfl, HL, HS, hown, hb⟩ := hrel
    by_cases hlt : k < N
    · by_cases h16 : k < 16
      · obtain ⟨b, off, A, n, c, rfl, hbB, hc0, hin⟩ := HI.out.2 k hlt
        have hbs := hb.size
        have hcr : wr.cell? ⟨b, off + k, none⟩ = some (.slice A n c) := (hb.cell (p := ⟨b, off + k, none⟩) hbB).trans hc0
        clear hc0
        go_wp2_with fail
        have hr0 : RS w wr.heap.size A n c u3 es (wr.alloc (.cells #[.slice A n c, .int .i64 0] 83)) :=
          ⟨hb.alloc hbs _, hown.alloc _, ⟨0, Nat.zero_le _, heap_alloc_new _ _⟩, (hin.below hb).below ((below_alloc1 _ _).mono hbs), hbs⟩
        clear hcr hin hown hb
        generalize wr.heap.size = d at *
        refine (next_rs w d A n c u3 es 3 _ (by omega) (by omega) hr0).mono ?_
        rintro x w1 ⟨g1, rfl, hg1, hr1⟩
        go_wp2_with fail
        refine (next_rs w d A n c u3 es 8 _ (by omega) (by omega) hr1).mono ?_
        rintro x w2 ⟨g2, rfl, hg2, hr2⟩
        go_wp2_with fail
        have hB0 : RB w d A n c u3 es w2.heap.size ⟨1 + g1, 1 + g2, false, 0, 0, ⟨#[]⟩, ⟨#[]⟩, 0, 0⟩ (w2.alloc (.cells (Req.cells ⟨1 + g1, 1 + g2, false, 0, 0, ⟨#[]⟩, ⟨#[]⟩, 0, 0⟩) 39)) :=
          ⟨hr2.below' (below_alloc1 _ _), ReqBox.new w2 _, fun e => absurd (hr2.rows.lt _ e).2 (by omega), hr2.below.size⟩
        have hlo := hr2.below.size
        have hown4 := hB0.rs.rows
        clear hr0 hr1 hr2
        generalize w2.heap.size = eb at hB0 hlo ⊢
        refine (next_rb w d A n c u3 es eb _ 6 _ (by omega) (by omega) hB0).mono ?_
        rintro x w3 ⟨g3, rfl, hg3, hB3⟩
        clear hB0 hown4
        by_cases h0 : g3 = 0
        · subst h0
          have fz := hB3.box.frozen 2
          have c2 : w3.cell? ⟨eb, 2, none⟩ = some (.bool false) := hB3.box.cell 2
          have hB4 := hB3.set (r' := ⟨1 + g1, 1 + g2, true, 0, 0, ⟨#[]⟩, ⟨#[]⟩, 0, 0⟩) 2 (.bool true) rfl
          have hat := hB4.box.at_
          have hlen : es.length + 1 ≤ 1000000 := by rw [HL.out]; omega
          clear hB3
          go_wp2_with (first
            | ((with_reducible refine wpList_load_mid (op := ⟨some 37, _, _, _, _, _⟩) ?_ 39 (.tmp 6) ?_ eb 0 ?_ (Req.cells ⟨1 + g1, 1 + g2, true, 0, 0, ⟨#[]⟩, ⟨#[]⟩, 0, 0⟩).toList _ ?_ Tryz.underlying39 ?_ ?_ ?_); rfl; rfl; rfl; exact hat; rfl; kernel_rfl)
            | (at_builtin; go_must (refine wpList_append_reqs rfl (.tmp 36) (.tmp 38) rfl w.heap.size u3 _ es [⟨1 + g1, 1 + g2, true, 0, 0, ⟨#[]⟩, ⟨#[]⟩, 0, 0⟩] rfl rfl (hB4.rs.rows.alloc _) (reqs_one_at _ ⟨1 + g1, 1 + g2, true, 0, 0, ⟨#[]⟩, ⟨#[]⟩, 0, 0⟩ _ (setCell_size _ _ _)) hlen (by have := hB4.rs.below.size; simp at this ⊢; omega) ?_); intro v' w5 hown' hg'))
          exact ⟨⟨k + 1, _, by omega, by omega, by go_num, Lib.hid (by simp [HL.out]), Lib.hid (small_snoc HS.out (small_mk (by unfold I64; omega) (by decide) (by decide))), hown', hB4.append hg'⟩, by simp [RowKit.intOf]; omega⟩
        · have h0' : ((g3 : Int) == 0) = false := by simp; omega
          go_wp2_with fail
          refine (codes_any _).mono ?_
          rintro _ w4 ⟨rfl, hw4⟩
          have hB4 : RB w d A n c u3 es eb ⟨1 + g1, 1 + g2, false, 0, 0, ⟨#[]⟩, ⟨#[]⟩, 0, 0⟩ w4 := by rw [hw4]; exact hB3.below' (below_alloc1 _ _)
          have hC4 : CodesAt w3.heap.size w4 := by rw [hw4]; exact heap_alloc_new _ _
          clear hw4 hB3
          generalize w3.heap.size = cb at hC4 ⊢
          go_wp2_with fail
          refine (next_rc w d A n c u3 es eb cb _ 5 _ (by omega) (by omega) hB4 hC4).mono ?_
          rintro x w5 ⟨g5, rfl, hg5, hB5, hC5⟩
          clear hB4 hC4
          have fz := hB5.box.frozen
          have c3 : w5.cell? ⟨eb, 3, none⟩ = some (.int .i64 0) := hB5.box.cell 3
          have c4 : w5.cell? ⟨eb, 4, none⟩ = some (.int .i64 0) := hB5.box.cell 4
          go_wp2_with fail
          have hB6 := (hB5.set (r' := ⟨1 + g1, 1 + g2, false, 1 + g5, 0, ⟨#[]⟩, ⟨#[]⟩, 0, 0⟩) 3 (.int .i64 (1 + g5)) rfl).set (r' := ⟨1 + g1, 1 + g2, false, 1 + g5, 4, ⟨#[]⟩, ⟨#[]⟩, 0, 0⟩) 4 (.int .i64 4) rfl
          have hC6 := (hC5.set hB5.box 3 (.int .i64 (1 + g5))).set (hB5.set (r' := ⟨1 + g1, 1 + g2, false, 1 + g5, 0, ⟨#[]⟩, ⟨#[]⟩, 0, 0⟩) 3 (.int .i64 (1 + g5)) rfl).box 4 (.int .i64 4)
          generalize (w5.setCell ⟨eb, 3, none⟩ (.int .i64 (1 + g5))).setCell ⟨eb, 4, none⟩ (.int .i64 4) = w6 at hB6 hC6 ⊢
          clear hB5 hC5 fz c3 c4
          refine (next_rc w d A n c u3 es eb cb _ 6 _ (by omega) (by omega) hB6 hC6).mono ?_
          rintro x w7 ⟨g6, rfl, hg6, hB7, hC7⟩
          clear hB6 hC6
          obtain ⟨s, hs, hsz⟩ := hC7.cell hg6
          have HSz := Lib.hid hsz
          have fz := hB7.box.frozen
          have c5 : w7.cell? ⟨eb, 5, none⟩ = some (.string ⟨#[]⟩) := hB7.box.cell 5
          clear hsz
          go_wp2_with fail
          have hB8 := hB7.set (r' := ⟨1 + g1, 1 + g2, false, 1 + g5, 4, s, ⟨#[]⟩, 0, 0⟩) 5 (.string s) rfl
          have hC8 := hC7.set hB7.box 5 (.string s)
          generalize w7.setCell ⟨eb, 5, none⟩ (.string s) = w8 at hB8 hC8 ⊢
          clear hB7 hC7 hs fz c5
          refine (next_rc w d A n c u3 es eb cb _ 3 _ (by omega) (by omega) hB8 hC8).mono ?_
          rintro x w9 ⟨g7, rfl, hg7, hB9, hC9⟩
          clear hB8 hC8
          by_cases h7 : g7 = 0
          · subst h7
            go_wp2_with fail
            refine (next_rc w d A n c u3 es eb cb _ 5 _ (by omega) (by omega) hB9 hC9).mono ?_
            rintro x w10 ⟨g8, rfl, hg8, hB10, hC10⟩
            clear hB9 hC9
            obtain ⟨s2, hs2, hsz2⟩ := hC10.cell (k := (g6 + 1 + g8) % 6) (by omega)
            have HS2 := Lib.hid hsz2
            have fz := hB10.box.frozen
            have c6 : w10.cell? ⟨eb, 6, none⟩ = some (.string ⟨#[]⟩) := hB10.box.cell 6
            clear hsz2
            go_wp2_with fail
            have hBx := hB10.set (r' := ⟨1 + g1, 1 + g2, false, 1 + g5, 4, s, s2, 0, 0⟩) 6 (.string s2) rfl
            have hCx := hC10.set hB10.box 6 (.string s2)
            generalize w10.setCell ⟨eb, 6, none⟩ (.string s2) = wx at hBx hCx ⊢
            clear hB10 hC10 hs2 fz c6
            refine (next_rc w d A n c u3 es eb cb _ 4 _ (by omega) (by omega) hBx hCx).mono ?_
            rintro x wa ⟨g9, rfl, hg9, hBa, hCa⟩
            clear hBx hCx
            have fz := hBa.box.frozen
            have c7 : wa.cell? ⟨eb, 7, none⟩ = some (.int .i64 0) := hBa.box.cell 7
            go_wp2_with fail
            have hBb := hBa.set (r' := ⟨1 + g1, 1 + g2, false, 1 + g5, 4, s, s2, g9, 0⟩) 7 (.int .i64 g9) rfl
            have hCb := hCa.set hBa.box 7 (.int .i64 g9)
            generalize wa.setCell ⟨eb, 7, none⟩ (.int .i64 g9) = wb at hBb hCb ⊢
            clear hBa hCa fz c7
            refine (next_rc w d A n c u3 es eb cb _ 20 _ (by omega) (by omega) hBb hCb).mono ?_
            rintro x wc ⟨g10, rfl, hg10, hBc, hCc⟩
            clear hBb hCb
            have fz := hBc.box.frozen
            have c8 : wc.cell? ⟨eb, 8, none⟩ = some (.int .i64 0) := hBc.box.cell 8
            have hB4 := hBc.set (r' := ⟨1 + g1, 1 + g2, false, 1 + g5, 4, s, s2, g9, 400 + g10⟩) 8 (.int .i64 (400 + g10)) rfl
            have hat := hB4.box.at_
            have hlen : es.length + 1 ≤ 1000000 := by rw [HL.out]; omega
            clear hBc hCc
            go_wp2_with (first
              | ((with_reducible refine wpList_load_mid (op := ⟨some 74, _, _, _, _, _⟩) ?_ 39 (.tmp 6) ?_ eb 0 ?_ (Req.cells ⟨1 + g1, 1 + g2, false, 1 + g5, 4, s, s2, g9, 400 + g10⟩).toList _ ?_ Tryz.underlying39 ?_ ?_ ?_); rfl; rfl; rfl; exact hat; rfl; kernel_rfl)
              | (at_builtin; go_must (refine wpList_append_reqs rfl (.tmp 73) (.tmp 75) rfl w.heap.size u3 _ es [⟨1 + g1, 1 + g2, false, 1 + g5, 4, s, s2, g9, 400 + g10⟩] rfl rfl (hB4.rs.rows.alloc _) (reqs_one_at _ ⟨1 + g1, 1 + g2, false, 1 + g5, 4, s, s2, g9, 400 + g10⟩ _ (setCell_size _ _ _)) hlen (by have := hB4.rs.below.size; simp at this ⊢; omega) ?_); intro v' wd hown' hg'))
            go_wp2_with fail
            exact ⟨⟨k + 1, _, by omega, by omega, by go_num, Lib.hid (by simp [HL.out]), Lib.hid (small_snoc HS.out (small_mk (by unfold I64; omega) HSz.out HS2.out)), hown', hB4.append hg'⟩, by simp [RowKit.intOf]; omega⟩
          · have h7' : ((g7 : Int) == 0) = false := by simp; omega
            have hBx := hB9
            have hCx := hC9
            clear hB9 hC9
            go_wp2_with fail
            refine (next_rc w d A n c u3 es eb cb _ 4 _ (by omega) (by omega) hBx hCx).mono ?_
            rintro x wa ⟨g9, rfl, hg9, hBa, hCa⟩
            clear hBx hCx
            have fz := hBa.box.frozen
            have c7 : wa.cell? ⟨eb, 7, none⟩ = some (.int .i64 0) := hBa.box.cell 7
            go_wp2_with fail
            have hBb := hBa.set (r' := ⟨1 + g1, 1 + g2, false, 1 + g5, 4, s, ⟨#[]⟩, g9, 0⟩) 7 (.int .i64 g9) rfl
            have hCb := hCa.set hBa.box 7 (.int .i64 g9)
            generalize wa.setCell ⟨eb, 7, none⟩ (.int .i64 g9) = wb at hBb hCb ⊢
            clear hBa hCa fz c7
            refine (next_rc w d A n c u3 es eb cb _ 20 _ (by omega) (by omega) hBb hCb).mono ?_
            rintro x wc ⟨g10, rfl, hg10, hBc, hCc⟩
            clear hBb hCb
            have fz := hBc.box.frozen
            have c8 : wc.cell? ⟨eb, 8, none⟩ = some (.int .i64 0) := hBc.box.cell 8
            have hB4 := hBc.set (r' := ⟨1 + g1, 1 + g2, false, 1 + g5, 4, s, ⟨#[]⟩, g9, 400 + g10⟩) 8 (.int .i64 (400 + g10)) rfl
            have hat := hB4.box.at_
            have hlen : es.length + 1 ≤ 1000000 := by rw [HL.out]; omega
            clear hBc hCc
            go_wp2_with (first
              | ((with_reducible refine wpList_load_mid (op := ⟨some 74, _, _, _, _, _⟩) ?_ 39 (.tmp 6) ?_ eb 0 ?_ (Req.cells ⟨1 + g1, 1 + g2, false, 1 + g5, 4, s, ⟨#[]⟩, g9, 400 + g10⟩).toList _ ?_ Tryz.underlying39 ?_ ?_ ?_); rfl; rfl; rfl; exact hat; rfl; kernel_rfl)
              | (at_builtin; go_must (refine wpList_append_reqs rfl (.tmp 73) (.tmp 75) rfl w.heap.size u3 _ es [⟨1 + g1, 1 + g2, false, 1 + g5, 4, s, ⟨#[]⟩, g9, 400 + g10⟩] rfl rfl (hB4.rs.rows.alloc _) (reqs_one_at _ ⟨1 + g1, 1 + g2, false, 1 + g5, 4, s, ⟨#[]⟩, g9, 400 + g10⟩ _ (setCell_size _ _ _)) hlen (by have := hB4.rs.below.size; simp at this ⊢; omega) ?_); intro v' wd hown' hg'))
            go_wp2_with fail
            exact ⟨⟨k + 1, _, by omega, by omega, by go_num, Lib.hid (by simp [HL.out]), Lib.hid (small_snoc HS.out (small_mk (by unfold I64; omega) HSz.out (by decide))), hown', hB4.append hg'⟩, by simp [RowKit.intOf]; omega⟩
      · obtain rfl : k = 16 := by omega
        go_wp2_with fail
        go_ret
        exact ⟨_, es, rfl, by rw [HL.out]; omega, HS.out, hown, hb⟩
    · obtain rfl : k = N := by omega
      go_wp2_with fail
      go_ret
      exact ⟨_, es, rfl, by rw [HL.out]; omega, HS.out, hown, hb⟩
end Go.Proofs.YteopjiedjnaeiaaGreat
namespace Go.Proofs.YteopjiedjnaeiaaGreat
open Go Go.Proofs Go.RowKit Go.Maps Go.Sort Go.Lib
attribute [local go_sem] Req.cells

theorem own_empty_at (w : World) (base b : Nat) (h : w.heap.size = b) (hb : base ≤ b) : (w.alloc (.cells #[] 39)).ownsRow base 39 9 (.slice (some ⟨b, 0, none⟩) 0 0) 0 (reqCells []) := by
  subst h; exact World.ownsRow_made w #[] 0 hb (Nat.zero_le _) rfl
theorem ReqsIn.grown {w w' : World} {v : Value} {L : List Req} {row : Option Nat} (h : ReqsIn w v L) (hg : w.grownBy w' row) (hne : v.ownBlock = none ∨ v.ownBlock ≠ row) : ReqsIn w' v L := by
  rcases h with h | ⟨b, o, c, rfl, h2, h3, h4⟩
  · exact .inl h
  · refine .inr ⟨b, o, c, rfl, h2, Nat.lt_of_lt_of_le h3 hg.size, fun j u hj => hg.cell (h4 j u hj) ?_⟩
    rcases hne with hne | hne
    · simp [Value.ownBlock] at hne
    · simpa [Value.ownBlock] using hne
theorem ReqsIn.take {w : World} {b o c : Nat} {L : List Req} (h : ReqsIn w (.slice (some ⟨b, o, none⟩) L.length c) L) (k : Nat) (hk : k ≤ L.length) : ReqsIn w (.slice (some ⟨b, o, none⟩) k c) (L.take k) := by
  rcases h with ⟨h, _⟩ | ⟨b', o', c', h1, h2, h3, h4⟩
  · injection h with h; cases h
  · injection h1 with e1 e2 e3
    simp only [Option.some.injEq, Addr.mk.injEq, and_true] at e1
    obtain ⟨rfl, rfl⟩ := e1
    have hl : (L.take k).length = k := by simp; omega
    refine .inr ⟨b, o, c, by rw [hl], by rw [hl, e3]; omega, h3, fun j u hj => h4 j u ?_⟩
    conv => lhs; rw [← List.take_append_drop k L, reqCells_app]
    rw [List.getElem?_append_left (List.getElem?_eq_some_iff.1 hj).1]; exact hj
theorem ReqsIn.drop {w : World} {b o c : Nat} {L : List Req} (h : ReqsIn w (.slice (some ⟨b, o, none⟩) L.length c) L) (k : Nat) (hk : k ≤ L.length) (a : Nat) (ha : L.length = k ∨ a = o + k * 9) : ReqsIn w (.slice (some ⟨b, a, none⟩) (L.length - k) (c - k)) (L.drop k) := by
  rcases h with ⟨h, _⟩ | ⟨b', o', c', h1, h2, h3, h4⟩
  · injection h with h; cases h
  · injection h1 with e1 e2 e3
    simp only [Option.some.injEq, Addr.mk.injEq, and_true] at e1
    obtain ⟨rfl, rfl⟩ := e1
    refine .inr ⟨b, a, c - k, by rw [List.length_drop], by rw [List.length_drop, e3]; omega, h3, fun j u hj => ?_⟩
    rcases ha with ha | rfl
    · rw [show L.drop k = [] from List.drop_eq_nil_of_le (by omega)] at hj
      simp [reqCells] at hj
    · rw [Nat.add_assoc]
      refine h4 _ u ?_
      conv => lhs; rw [← List.take_append_drop k L, reqCells_app]
      rw [List.getElem?_append_right (by rw [reqCells_len]; simp; omega), reqCells_len, show (L.take k).length = k by simp; omega, show k * 9 + j - k * 9 = j by omega]
      exact hj
theorem flow_append_reqs {ops : Array Oper} {Q : Exit → Act → World → Prop} {S : World → Prop} {i : Nat} {σ : List (Nat × Bool)} {a : Act} {w : World} (oi : Oper) (hi : ops[i]? = some oi) (hw : Region.wanted oi (yielded ops a.tmps) = true)
    (s x : Operand) (ho : oi.op = .call { callee := .builtin .append, args := #[s, x], argTypes := #[30, 30] })
    (base : Nat) (v xv : Value) (X Y : List Req) (hs : a.eval s = v) (hxv : a.eval x = xv) (hown : w.ownsRow base 39 9 v X.length (reqCells X)) (hx : ReqsIn w xv Y) (hl : X.length + Y.length ≤ 1000000) (hb : base ≤ w.heap.size)
    (h : ∀ v' w', AppR w base v X Y v' w' → S w' ∧ wpFlow Tryz.prog ops Q S σ (a.put oi.dst v') w') : wpFlow Tryz.prog ops Q S ((i, false) :: σ) a w :=
  flow_op oi hi hw (by
    obtain ⟨v', w', hr, hA⟩ := run_append_reqs2 w base oi.type v xv X Y hown hx hl hb
    unfold Oper.wp execOp
    simp only [ho, resolve, invoke, builtin, Sem.run_bind, Sem.run_pure, Result.andThen_ok, List.map_toArray, List.map_cons, List.map_nil, hs, hxv, hr]
    exact h v' w' hA)

end Go.Proofs.YteopjiedjnaeiaaGreat
