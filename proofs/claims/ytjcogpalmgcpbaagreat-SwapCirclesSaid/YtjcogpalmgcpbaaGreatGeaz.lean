/- swap: follows and is. -/
import Derived.Test.YtjcogpalmgcpbaaGreatGeax
/- swap: follows, closes. -/
namespace Go.Proofs.YtjcogpalmgcpbaaGreat
open Go Go.Proofs Go.RowKit Go.Maps Go.Sort Go.Lib
attribute [local go_sem] Req.cells

theorem indexJ_any (g : FuncId) (cb : Array Value) (p : Nat → Bool) (v : Value) (zs : List Nat) (w : World) (h : RowIn encN w v zs) (hl : zs.length ≤ 1000000000000)
    (eg : ∀ args w, (callFunc g args).run Tryz.prog w = .ok (.enter g args) w) (hp : ∀ n ∈ zs, ∀ w1, RowKit.Below w.heap.size w w1 → Calls Tryz.prog g (#[.int .i64 n] ++ cb) w1 fun e w' => e = .returned (.bool (p n)) ∧ RowKit.Below w1.heap.size w1 w') :
    Calls Tryz.prog 66 #[v, .func (.func g) #[] cb] w fun e w' => (∃ k : Int, e = .returned (.int .i64 k) ∧ decide (k ≥ 0) = zs.any p) ∧ RowKit.Below w.heap.size w w' := by
  obtain ⟨q, c, rfl, _⟩ := h.form
  have H := Lib.hid h
  have HPP := Lib.hid hp
  clear h hp
  go_enter Tryz.func66, Tryz.ntmps66
  go_wp2_with fail
  go_loopw [8] (fun i wr => ∃ k : Nat, k ≤ zs.length ∧ i = .int .i64 k ∧ Hid ((zs.take k).any p = false) ∧ RowKit.Below w.heap.size w wr) (fun i _ => zs.length - (RowKit.intOf i).toNat)
  case atStart => exact ⟨0, Nat.zero_le _, rfl, Lib.hid rfl, Below.refl _ _⟩
  case round =>
    obtain ⟨k, hk, rfl, HK, hbr⟩ := hrel
    by_cases hlt : k < zs.length
    · obtain ⟨b, o, c', hv, _, hbl, hx⟩ := H.out.at_ (k := 1) (fun _ => rfl) (by omega)
      have e1 := (Value.slice.inj hv).1
      subst e1
      have hz := List.getElem?_eq_getElem hlt
      have hcell : wr.cell? ⟨b, o + k, none⟩ = some (.int .i64 (zs[k] : Nat)) := by
        rw [hbr.cell (p := ⟨b, o + k, none⟩) hbl]
        have := hx k _ hz 0 _ rfl
        simpa using this
      have hn : zs.take (k + 1) = zs.take k ++ [zs[k]] := by rw [List.take_add_one, hz]; rfl
      have HN := Lib.hid hn
      have HZ := Lib.hid (List.getElem_mem hlt)
      generalize zs[k] = z at hz hcell HN HZ
      have cp := HPP.out z HZ.out wr hbr
      generalize hG : p z = G at cp
      have HG := Lib.hid hG
      clear hv hx hz hn hG
      go_wp2_with fail
      refine cp.mono ?_
      rintro _ w2 ⟨rfl, hb2⟩
      have hb3 := below_next hbr hb2
      cases G
      · go_wp2_with fail
        go_roundw
        case rel => exact ⟨k + 1, by omega, by go_num, Lib.hid (by rw [HN.out, List.any_append, HK.out]; simp [HG.out]), hb3⟩
        case measure => simp [RowKit.intOf]; omega
      · go_wp2_with fail
        go_ret
        refine ⟨⟨k, rfl, ?_⟩, hb3⟩
        rw [decide_eq_true (by omega), eq_comm, List.any_eq_true]
        exact ⟨z, HZ.out, HG.out⟩
    · obtain rfl : k = zs.length := by omega
      have hk2 := HK.out
      rw [List.take_length] at hk2
      go_wp2_with fail
      go_ret
      exact ⟨⟨-1, rfl, by rw [hk2]; rfl⟩, hbr⟩
theorem containsJ_any (g : FuncId) (cb : Array Value) (p : Nat → Bool) (v : Value) (zs : List Nat) (w : World) (h : RowIn encN w v zs) (hl : zs.length ≤ 1000000000000)
    (eg : ∀ args w, (callFunc g args).run Tryz.prog w = .ok (.enter g args) w) (hp : ∀ n ∈ zs, ∀ w1, RowKit.Below w.heap.size w w1 → Calls Tryz.prog g (#[.int .i64 n] ++ cb) w1 fun e w' => e = .returned (.bool (p n)) ∧ RowKit.Below w1.heap.size w1 w') :
    Calls Tryz.prog 52 #[v, .func (.func g) #[] cb] w fun e w' => e = .returned (.bool (zs.any p)) ∧ RowKit.Below w.heap.size w w' := by
  go_enter Tryz.func52, Tryz.ntmps52
  go_wp2_with fail
  refine (indexJ_any g cb p v zs w h hl eg hp).mono ?_
  rintro _ w2 ⟨⟨k, rfl, hk⟩, hb⟩
  go_wp2_with fail
  go_ret
  exact ⟨rfl, hb⟩
/-- Where requests lie. -/
theorem reqs_at {w : World} {pl : Option Addr} {cl : Nat} {l : List Req} (h : RowIn encR w (.slice pl l.length cl) l) (hl : 0 < l.length) : ∃ g o, pl = some ⟨g, o, none⟩ ∧ g < w.heap.size ∧ ∀ k, k < l.length → ∀ j v, (atR l k).cells.toList[j]? = some v → w.cell? ⟨g, o + k * 9 + j, none⟩ = some v := by
  obtain ⟨g, o, c', hv, _, hg, hx⟩ := h.at_ (k := 9) (fun _ => rfl) hl
  injection hv with e1 _ _
  refine ⟨g, o, e1, hg, fun k hk j v hj => ?_⟩
  have hz := List.getElem?_eq_getElem hk
  rw [atR_get hz] at hj
  exact hx k _ hz j v hj
theorem nats_at {w : World} {pc : Option Addr} {cc n : Nat} {c : List Nat} (h : RowIn encN w (.slice pc n cc) c) (hn : n = c.length) (hl : 0 < c.length) : ∃ g o, pc = some ⟨g, o, none⟩ ∧ g < w.heap.size ∧ ∀ (k x : Nat), c[k]? = some x → w.cell? ⟨g, o + k, none⟩ = some (.int .i64 x) := by
  subst hn
  obtain ⟨g, o, c', hv, _, hg, hx⟩ := h.at_ (k := 1) (fun _ => rfl) hl
  injection hv with e1 _ _
  refine ⟨g, o, e1, hg, fun k x hk => ?_⟩
  have := hx k x hk 0 _ rfl
  simpa using this
set_option maxHeartbeats 4000000 in
theorem same1_any (bx bn b : Nat) (l : List Req) (can : List Nat) (d : Deal) (k n : Nat) (w : World) (hx : ExIn w b l can d) (h1 : w.cell? ⟨bx, 0, none⟩ = some (.pointer (some ⟨b, 0, none⟩))) (h2 : w.cell? ⟨bn, 0, none⟩ = some (.int .i64 n)) (hk : k < l.length) (hn : n < l.length) :
    Calls Tryz.prog 61 (#[.int .i64 k] ++ #[.pointer (some ⟨bx, 0, none⟩), .pointer (some ⟨bn, 0, none⟩)]) w fun e w' => e = .returned (.bool (decide ((atR l k).student = (atR l n).student))) ∧ RowKit.Below w.heap.size w w' := by
  obtain ⟨⟨pl, cl, pc, cc, ps, cs, pw, cw, h0, hL, -, -, -⟩, -, -, -, -, -⟩ := hx
  have hc0 : w.cell? ⟨b, 0, none⟩ = some (.slice pl l.length cl) := Lib.cell_of_heap h0 0
  obtain ⟨g, o, rfl, hg, hat⟩ := reqs_at hL (by omega)
  have hk3 : w.cell? ⟨g, o + k * 9 + 3, none⟩ = some (.int .i64 (atR l k).student) := hat k hk 3 _ rfl
  have hn3 : w.cell? ⟨g, o + n * 9 + 3, none⟩ = some (.int .i64 (atR l n).student) := hat n hn 3 _ rfl
  have i1 : (k : Int) < (l.length : Int) := by omega
  have i2 : (n : Int) < (l.length : Int) := by omega
  clear hat hL h0
  go_enter Tryz.func61, Tryz.ntmps61
  go_wp2_with fail
  go_quiet (fail)
  go_wp2_with fail
  go_ret
  exact ⟨rfl, blw_drewN (Below.refl _ _) _⟩
set_option maxHeartbeats 4000000 in
theorem closes_any (b : Nat) (l : List Req) (can : List Nat) (d : Deal) (c : List Nat) (pv : Option Addr) (cv : Nat) (w : World) (hx : ExIn w b l can d) (hc : RowIn encN w (.slice pv c.length cv) c) (hc0 : 0 < c.length) (hcl : ∀ n ∈ c, n < l.length) (hl : c.length ≤ 1000000) :
    Calls Tryz.prog 45 #[.pointer (some ⟨b, 0, none⟩), .slice pv c.length cv] w fun e w' => e = .returned (.bool (closesB l c)) ∧ RowKit.Below w.heap.size w w' := by
  obtain ⟨⟨pl, cl, pc, cc, ps, cs, pw, cw, h0, hL, -, -, -⟩, -, -, -, -, -⟩ := hx
  have hb0 : w.cell? ⟨b, 0, none⟩ = some (.slice pl l.length cl) := Lib.cell_of_heap h0 0
  obtain ⟨gv, ov, rfl, hgv, hcv⟩ := nats_at hc rfl hc0
  have hlast : c[c.length - 1]? = some (c.getLastD 0) := by
    rw [List.getLastD_eq_getLast?, List.getLast?_eq_getElem?, List.getElem?_eq_getElem (by omega)]; rfl
  have hhead : c[0]? = some (c.headD 0) := by
    cases c with
    | nil => cases hc0
    | cons x c => rfl
  have hla := hcl _ (List.mem_of_getElem? hlast)
  have hle := hcl _ (List.mem_of_getElem? hhead)
  obtain ⟨g, o, rfl, hg, hat⟩ := reqs_at hL (by omega)
  have q1 := hcv _ _ hlast
  have q2 := hcv _ _ hhead
  rw [Nat.add_zero] at q2
  have HC : Hid (closesB l c = decide ((atR l (c.getLastD 0)).code = (atR l (c.headD 0)).give)) := Lib.hid rfl
  generalize c.getLastD 0 = a at *
  generalize c.headD 0 = f at *
  have hk3 : w.cell? ⟨g, o + a * 9 + 5, none⟩ = some (.string (atR l a).code) := hat a hla 5 _ rfl
  have hn3 : w.cell? ⟨g, o + f * 9 + 6, none⟩ = some (.string (atR l f).give) := hat f hle 6 _ rfl
  have i1 : (a : Int) < (l.length : Int) := by omega
  have i2 : (f : Int) < (l.length : Int) := by omega
  have w1 : IntKind.i64.wrap ((c.length : Int) - 1) = ((c.length - 1 : Nat) : Int) := by rw [IntWalk.i64_in _ (by omega)]; omega
  have hcap : c.length ≤ cv := by obtain ⟨_, _, h, h2⟩ := hc.form; injection h with _ _ h; omega
  have i3 : ((c.length - 1 : Nat) : Int) < (c.length : Int) := by omega
  have i4 : (0 : Int) < (c.length : Int) := by omega
  have tt : ((atR l a).code.toList == (atR l f).give.toList) = decide ((atR l a).code = (atR l f).give) := by
    rw [Bool.eq_iff_iff, beq_iff_eq, req_ba, decide_eq_true_eq]
  clear hat hL h0 hlast hhead hcv hcl hc hla hle
  go_enter Tryz.func45, Tryz.ntmps45
  go_wp2_with fail
  go_quiet (fail)
  go_wp2_with fail
  go_ret
  exact ⟨ret_bool (by rw [HC.out, ← tt]), blw_drewN (Below.refl _ _) _⟩
end Go.Proofs.YtjcogpalmgcpbaaGreat
/- swap: follows. -/
namespace Go.Proofs.YtjcogpalmgcpbaaGreat
open Go Go.Proofs Go.RowKit Go.Maps Go.Sort Go.Lib
attribute [local go_sem] Req.cells


set_option maxHeartbeats 16000000 in
set_option maxRecDepth 100000 in
theorem fo_r3 {s0 s2 s4 s5 s6 s7 s8 s9 s10 s11 s12 s13 s14 s15 s16 s17 s18 s19 s20 s21 s22 s23 s24 s25 s26 s27 s28 s29 s30 s31 s32 s33 s34 s35 s36 s37 s38 s39 s40 s41 s42 s43 s44 s45 s46 : Value} (bx b gv ov g o lst cl cv : Nat) (l : List Req) (c : List Nat) (W : World) (Q : Exit → Act → World → Prop) (hbx : bx < W.heap.size ∧ W.cell? ⟨bx, 0, none⟩ = some (.pointer (some ⟨b, 0, none⟩))) (hb0 : b < W.heap.size ∧ W.cell? ⟨b, 0, none⟩ = some (.slice (some ⟨g, o, none⟩) l.length cl)) (hc0 : 0 < c.length) (lc : c.length ≤ 1000000) (_hcv : c.length ≤ cv) (ha : gv < W.heap.size ∧ W.cell? ⟨gv, ov + (c.length - 1), none⟩ = some (.int .i64 lst)) (hal : lst < l.length) (hg : g < W.heap.size) (hat : ∀ j v, (atR l lst).cells.toList[j]? = some v → W.cell? ⟨g, o + lst * 9 + j, none⟩ = some v)
    (hQ : ∀  (rb : Nat) (wx : World), RowKit.Below W.heap.size W wx → wx.heap[rb]? = some (.cells #[.int .i64 (atR l lst).server, .int .i64 (atR l lst).seq, .bool (atR l lst).cancel, .int .i64 (atR l lst).student, .int .i64 (atR l lst).term, .string (atR l lst).code, .string (atR l lst).give, .int .i64 (atR l lst).priority, .int .i64 (atR l lst).day] 41 (0, 0)) → Q .normal ⟨List.toArray (s0 :: .slice (some ⟨gv, ov, none⟩) c.length cv :: s2 :: .pointer (some ⟨bx, 0, none⟩) :: s4 :: s5 :: s6 :: .pointer (some ⟨rb, 0, none⟩) :: s8 :: s9 :: s10 :: .pointer (some ⟨b, 0, none⟩) :: .pointer (some ⟨b, 0, none⟩) :: .pointer (some ⟨b, 0, none⟩) :: .slice (some ⟨g, o, none⟩) l.length cl :: .slice (some ⟨gv, ov, none⟩) c.length cv :: .slice (some ⟨gv, ov, none⟩) c.length cv :: .int .i64 c.length :: .int .i64 ((c.length - 1 : Nat) : Int) :: .pointer (some ⟨gv, ov + (c.length - 1), none⟩) :: .int .i64 lst :: .pointer (some ⟨g, o + lst * 9, none⟩) :: .agg #[.int .i64 (atR l lst).server, .int .i64 (atR l lst).seq, .bool (atR l lst).cancel, .int .i64 (atR l lst).student, .int .i64 (atR l lst).term, .string (atR l lst).code, .string (atR l lst).give, .int .i64 (atR l lst).priority, .int .i64 (atR l lst).day] :: s23 :: s24 :: s25 :: s26 :: s27 :: s28 :: s29 :: s30 :: s31 :: s32 :: s33 :: s34 :: s35 :: s36 :: s37 :: s38 :: s39 :: s40 :: s41 :: s42 :: s43 :: s44 :: s45 :: s46 :: []), []⟩ wx) :
    (regionOf Tryz.f44 3).wp Tryz.prog Q ⟨List.toArray (s0 :: .slice (some ⟨gv, ov, none⟩) c.length cv :: s2 :: .pointer (some ⟨bx, 0, none⟩) :: s4 :: s5 :: s6 :: s7 :: s8 :: s9 :: s10 :: s11 :: s12 :: s13 :: s14 :: s15 :: s16 :: s17 :: s18 :: s19 :: s20 :: s21 :: s22 :: s23 :: s24 :: s25 :: s26 :: s27 :: s28 :: s29 :: s30 :: s31 :: s32 :: s33 :: s34 :: s35 :: s36 :: s37 :: s38 :: s39 :: s40 :: s41 :: s42 :: s43 :: s44 :: s45 :: s46 :: []), []⟩ W := by
  refine of_onlyN (K := Q .normal) ?_ (fun _ _ h => h)
  generalize Q .normal = K at hQ ⊢
  have HQ := Lib.hid hQ; clear hQ
  conv => arg 2; whnf
  have hS0 : RowKit.Below W.heap.size W W.drew := (Below.refl _ _).drew
  have w1 : IntKind.i64.wrap ((c.length : Int) - 1) = ((c.length - 1 : Nat) : Int) := by rw [IntWalk.i64_in _ (by omega)]; omega
  refine wp_region_par (S := fun w => RowKit.Below W.heap.size W w) (I := fun L' a w => ∃ u7 : Value, a = ⟨List.toArray (s0 :: .slice (some ⟨gv, ov, none⟩) c.length cv :: s2 :: .pointer (some ⟨bx, 0, none⟩) :: s4 :: s5 :: s6 :: u7 :: s8 :: s9 :: s10 :: .pointer (some ⟨b, 0, none⟩) :: .pointer (some ⟨b, 0, none⟩) :: .pointer (some ⟨b, 0, none⟩) :: .slice (some ⟨g, o, none⟩) l.length cl :: .slice (some ⟨gv, ov, none⟩) c.length cv :: .slice (some ⟨gv, ov, none⟩) c.length cv :: .int .i64 c.length :: .int .i64 ((c.length - 1 : Nat) : Int) :: .pointer (some ⟨gv, ov + (c.length - 1), none⟩) :: .int .i64 lst :: .pointer (some ⟨g, o + lst * 9, none⟩) :: .agg #[.int .i64 (atR l lst).server, .int .i64 (atR l lst).seq, .bool (atR l lst).cancel, .int .i64 (atR l lst).student, .int .i64 (atR l lst).term, .string (atR l lst).code, .string (atR l lst).give, .int .i64 (atR l lst).priority, .int .i64 (atR l lst).day] :: s23 :: s24 :: s25 :: s26 :: s27 :: s28 :: s29 :: s30 :: s31 :: s32 :: s33 :: s34 :: s35 :: s36 :: s37 :: s38 :: s39 :: s40 :: s41 :: s42 :: s43 :: s44 :: s45 :: s46 :: []), []⟩ ∧ (RowKit.Below W.heap.size W w) ∧ (L'.getD 12 false = true → L'.getD 13 false = false → Laid W.heap.size w (fun b => .pointer (some ⟨b, 0, none⟩)) (.cells #[.int .i64 0, .int .i64 0, .bool false, .int .i64 0, .int .i64 0, .string ⟨#[]⟩, .string ⟨#[]⟩, .int .i64 0, .int .i64 0] 41 (0, 0)) u7) ∧ (L'.getD 13 false = true → ∃ rb, u7 = .pointer (some ⟨rb, 0, none⟩) ∧ W.heap.size ≤ rb ∧ w.heap[rb]? = some (.cells #[.int .i64 (atR l lst).server, .int .i64 (atR l lst).seq, .bool (atR l lst).cancel, .int .i64 (atR l lst).student, .int .i64 (atR l lst).term, .string (atR l lst).code, .string (atR l lst).give, .int .i64 (atR l lst).priority, .int .i64 (atR l lst).day] 41 (0, 0)))) (pre := fun i L' => L'.size == 14 && ((i == 12 && !L'.getD 13 false) || (i == 13 && L'.getD 12 false && !L'.getD 13 false))) (fin := fun L' => L'.getD 13 false) [0, 1, 2, 3, 4, 5, 6, 7, 8, 9, 10, 11] 2 (by kernel_rfl) (by kernel_rfl) (by kernel_rfl) (by kernel_rfl) (by decide) hS0 ?_ ?_ ?_
  · intro i L' a w hp hI
    obtain ⟨u7, rfl, hSw, hP12, hP13⟩ := hI
    simp only [Bool.and_eq_true, Bool.or_eq_true, beq_iff_eq, Bool.not_eq_true'] at hp
    obtain ⟨hsz, hp⟩ := hp
    rcases hp with (⟨rfl, gn13⟩ | ⟨⟨rfl, gd12⟩, gn13⟩)
    · have g12 : (L'.setIfInBounds 12 true).getD 12 false = true := by rw [up_set, if_pos ⟨rfl, by omega⟩]
      have g13 : (L'.setIfInBounds 12 true).getD 13 false = L'.getD 13 false := by rw [up_set, if_neg (by omega)]
      have hb : RowKit.Below w.heap.size w (w.alloc (.cells #[.int .i64 0, .int .i64 0, .bool false, .int .i64 0, .int .i64 0, .string ⟨#[]⟩, .string ⟨#[]⟩, .int .i64 0, .int .i64 0] 41)) := below_alloc1 _ _
      have hSn := below_next hSw hb
      refine par_run ⟨some 7, _, _, _, _, _⟩ (.pointer (some ⟨w.heap.size, 0, none⟩)) (w.alloc (.cells #[.int .i64 0, .int .i64 0, .bool false, .int .i64 0, .int .i64 0, .string ⟨#[]⟩, .string ⟨#[]⟩, .int .i64 0, .int .i64 0] 41)) rfl (by rfl) (by go_simp) ?_
      exact ⟨hSn, (.pointer (some ⟨w.heap.size, 0, none⟩)), by simp only [Act.put, List.setIfInBounds_toArray, List.set_cons_zero, List.set_cons_succ], hSn, fun _ _ => Laid.new w _ _ _ hSw.size, by rw [g13]; exact fun e => absurd (e.symm.trans gn13) (by decide)⟩
    · have g12 : (L'.setIfInBounds 13 true).getD 12 false = L'.getD 12 false := by rw [up_set, if_neg (by omega)]
      have g13 : (L'.setIfInBounds 13 true).getD 13 false = true := by rw [up_set, if_pos ⟨rfl, by omega⟩]
      have hD12 := hP12 gd12 gn13
      obtain ⟨b12, rfl, hB12, hb12⟩ := hD12
      have hg2 := setRow_grown hb12 #[.int .i64 (atR l lst).server, .int .i64 (atR l lst).seq, .bool (atR l lst).cancel, .int .i64 (atR l lst).student, .int .i64 (atR l lst).term, .string (atR l lst).code, .string (atR l lst).give, .int .i64 (atR l lst).priority, .int .i64 (atR l lst).day]
      have hSn : RowKit.Below W.heap.size W (w.setRow b12 #[.int .i64 (atR l lst).server, .int .i64 (atR l lst).seq, .bool (atR l lst).cancel, .int .i64 (atR l lst).student, .int .i64 (atR l lst).term, .string (atR l lst).code, .string (atR l lst).give, .int .i64 (atR l lst).priority, .int .i64 (atR l lst).day]) := hSw.grown hg2 hSw.size (fun q hq => by obtain rfl := Option.some.inj hq; exact hB12)
      refine par_store_row ⟨none, _, _, _, _, _⟩ rfl (by rfl) 41 (.tmp 7) (.tmp 22) (by rfl) b12 #[.int .i64 (atR l lst).server, .int .i64 (atR l lst).seq, .bool (atR l lst).cancel, .int .i64 (atR l lst).student, .int .i64 (atR l lst).term, .string (atR l lst).code, .string (atR l lst).give, .int .i64 (atR l lst).priority, .int .i64 (atR l lst).day] (by rfl) (by rfl) _ _ hb12 (by kernel_rfl) rfl (by simp [Value.oneCell']) ?_
      exact ⟨hSn, (.pointer (some ⟨b12, 0, none⟩)), by simp only [Act.put], hSn, by rw [g13]; exact fun _ e => absurd e (by decide), fun _ => ⟨b12, rfl, hB12, setRow_heap w b12 _ _ _ _ hb12⟩⟩
  · intro L' a w hp hI
    obtain ⟨u7, rfl, hSw, hP12, hP13⟩ := hI
    (try simp only [Bool.and_eq_true] at hp)
    have p13 := hp
    obtain ⟨rb, rfl, hlo, hbx⟩ := hP13 p13
    exact HQ.out  rb w hSw hbx
  · refine par_take ⟨some 11, _, _, _, _, _⟩ (.pointer (some ⟨b, 0, none⟩)) rfl (by rfl) ?_ ?_
    · intro w hSw; have hcc : w.cell? ⟨bx, 0, none⟩ = some (.pointer (some ⟨b, 0, none⟩)) := (hSw.cell (p := ⟨bx, 0, none⟩) hbx.1).trans hbx.2; go_simp
    simp only [Act.put, List.setIfInBounds_toArray, List.set_cons_zero, List.set_cons_succ]
    refine par_take ⟨some 12, _, _, _, _, _⟩ (.pointer (some ⟨b, 0, none⟩)) rfl (by rfl) ?_ ?_
    · intro w hSw; go_simp
    simp only [Act.put, List.setIfInBounds_toArray, List.set_cons_zero, List.set_cons_succ]
    refine par_take ⟨some 13, _, _, _, _, _⟩ (.pointer (some ⟨b, 0, none⟩)) rfl (by rfl) ?_ ?_
    · intro w hSw; go_simp
    simp only [Act.put, List.setIfInBounds_toArray, List.set_cons_zero, List.set_cons_succ]
    refine par_take ⟨some 14, _, _, _, _, _⟩ (.slice (some ⟨g, o, none⟩) l.length cl) rfl (by rfl) ?_ ?_
    · intro w hSw; have hcc : w.cell? ⟨b, 0, none⟩ = some (.slice (some ⟨g, o, none⟩) l.length cl) := (hSw.cell (p := ⟨b, 0, none⟩) hb0.1).trans hb0.2; go_simp
    simp only [Act.put, List.setIfInBounds_toArray, List.set_cons_zero, List.set_cons_succ]
    refine par_take ⟨some 15, _, _, _, _, _⟩ ?_ rfl (by rfl) ?_ ?_
    rotate_left 1
    · intro w hSw; (try dsimp only at hSw); go_simp; (try with_reducible rfl)
    simp only [Act.put, List.setIfInBounds_toArray, List.set_cons_zero, List.set_cons_succ]
    refine par_take ⟨some 16, _, _, _, _, _⟩ ?_ rfl (by rfl) ?_ ?_
    rotate_left 1
    · intro w hSw; (try dsimp only at hSw); go_simp; (try with_reducible rfl)
    simp only [Act.put, List.setIfInBounds_toArray, List.set_cons_zero, List.set_cons_succ]
    refine par_take ⟨some 17, _, _, _, _, _⟩ (.int .i64 c.length) rfl (by rfl) ?_ ?_
    · intro w hSw; go_simp
    simp only [Act.put, List.setIfInBounds_toArray, List.set_cons_zero, List.set_cons_succ]
    refine par_take ⟨some 18, _, _, _, _, _⟩ (.int .i64 ((c.length - 1 : Nat) : Int)) rfl (by rfl) ?_ ?_
    · intro w hSw; go_simp; first | done | exact w1
    simp only [Act.put, List.setIfInBounds_toArray, List.set_cons_zero, List.set_cons_succ]
    refine par_take ⟨some 19, _, _, _, _, _⟩ (.pointer (some ⟨gv, ov + (c.length - 1), none⟩)) rfl (by rfl) ?_ ?_
    · intro w hSw; go_simp; first | done | omega
    simp only [Act.put, List.setIfInBounds_toArray, List.set_cons_zero, List.set_cons_succ]
    refine par_take ⟨some 20, _, _, _, _, _⟩ (.int .i64 lst) rfl (by rfl) ?_ ?_
    · intro w hSw; have hcc : w.cell? ⟨gv, ov + (c.length - 1), none⟩ = some (.int .i64 lst) := (hSw.cell (p := ⟨gv, ov + (c.length - 1), none⟩) ha.1).trans ha.2; go_simp
    simp only [Act.put, List.setIfInBounds_toArray, List.set_cons_zero, List.set_cons_succ]
    refine par_take ⟨some 21, _, _, _, _, _⟩ (.pointer (some ⟨g, o + lst * 9, none⟩)) rfl (by rfl) ?_ ?_
    · intro w hSw; go_simp; first | done | omega
    simp only [Act.put, List.setIfInBounds_toArray, List.set_cons_zero, List.set_cons_succ]
    refine par_take_row ⟨some 22, _, _, _, _, _⟩ rfl (by rfl) 41 (.tmp 21) (by rfl) g (o + lst * 9) (by rfl) [.int .i64 (atR l lst).server, .int .i64 (atR l lst).seq, .bool (atR l lst).cancel, .int .i64 (atR l lst).student, .int .i64 (atR l lst).term, .string (atR l lst).code, .string (atR l lst).give, .int .i64 (atR l lst).priority, .int .i64 (atR l lst).day] _ (fun w hSw => fun j v hj => (hSw.cell (p := ⟨g, o + lst * 9 + j, none⟩) hg).trans (hat j v hj)) Tryz.underlying41 rfl (by kernel_rfl) ?_
    simp only [Act.put, List.setIfInBounds_toArray, List.set_cons_zero, List.set_cons_succ]
    exact ⟨_, rfl, hS0, (fun e => absurd e (by decide +kernel)), (fun e => absurd e (by decide +kernel))⟩

set_option maxHeartbeats 4000000 in
set_option maxRecDepth 100000 in
theorem fo_r4 {s0 s2 s4 s6 s8 s9 s10 s11 s12 s13 s14 s15 s16 s17 s18 s19 s20 s21 s22 s23 s24 s25 s26 s27 s28 s29 s30 s31 s32 s33 s34 s35 s36 s37 s38 s39 s40 s41 s42 s43 s44 s45 s46 : Value} (bx b bn rb gv ov g o lst f n cl cv : Nat) (l : List Req) (can : List Nat) (d : Deal) (c : List Nat) (W : World) (Q : Exit → Act → World → Prop) (hx : ExIn W b l can d) (hbx : bx < W.heap.size ∧ W.cell? ⟨bx, 0, none⟩ = some (.pointer (some ⟨b, 0, none⟩))) (hb0 : b < W.heap.size ∧ W.cell? ⟨b, 0, none⟩ = some (.slice (some ⟨g, o, none⟩) l.length cl)) (hbn : bn < W.heap.size ∧ W.cell? ⟨bn, 0, none⟩ = some (.int .i64 n)) (hf : gv < W.heap.size ∧ W.cell? ⟨gv, ov, none⟩ = some (.int .i64 f)) (hrb : rb < W.heap.size ∧ W.cell? ⟨rb, 5, none⟩ = some (.string (atR l lst).code)) (hgv : g < W.heap.size ∧ W.cell? ⟨g, o + n * 9 + 6, none⟩ = some (.string (atR l n).give)) (hc0 : 0 < c.length) (lc : c.length ≤ 1000000) (_hcv : c.length ≤ cv) (hc : RowIn encN W (.slice (some ⟨gv, ov, none⟩) c.length cv) c) (hcl : ∀ k ∈ c, k < l.length) (hn : n < l.length)
    (hQ : ∀ (u23 u24 u25 u26 u27 u28 u29 u30 u31 u32 u33 u34 u35 u36 u37 u38 u39 u40 u41 u42 u43 u44 u45 u46 : Value)  (wx : World), RowKit.Below W.heap.size W wx → Q .normal ⟨List.toArray (s0 :: .slice (some ⟨gv, ov, none⟩) c.length cv :: s2 :: .pointer (some ⟨bx, 0, none⟩) :: s4 :: .pointer (some ⟨bn, 0, none⟩) :: .bool (decide (f < n) && decide ((atR l lst).code = (atR l n).give) && !(c.any fun k => decide ((atR l k).student = (atR l n).student))) :: .pointer (some ⟨rb, 0, none⟩) :: s8 :: s9 :: s10 :: s11 :: s12 :: s13 :: s14 :: s15 :: s16 :: s17 :: s18 :: s19 :: s20 :: s21 :: s22 :: u23 :: u24 :: u25 :: u26 :: u27 :: u28 :: u29 :: u30 :: u31 :: u32 :: u33 :: u34 :: u35 :: u36 :: u37 :: u38 :: u39 :: u40 :: u41 :: u42 :: u43 :: u44 :: u45 :: u46 :: []), []⟩ wx) :
    (regionOf Tryz.f44 4).wp Tryz.prog Q ⟨List.toArray (s0 :: .slice (some ⟨gv, ov, none⟩) c.length cv :: s2 :: .pointer (some ⟨bx, 0, none⟩) :: s4 :: .pointer (some ⟨bn, 0, none⟩) :: s6 :: .pointer (some ⟨rb, 0, none⟩) :: s8 :: s9 :: s10 :: s11 :: s12 :: s13 :: s14 :: s15 :: s16 :: s17 :: s18 :: s19 :: s20 :: s21 :: s22 :: s23 :: s24 :: s25 :: s26 :: s27 :: s28 :: s29 :: s30 :: s31 :: s32 :: s33 :: s34 :: s35 :: s36 :: s37 :: s38 :: s39 :: s40 :: s41 :: s42 :: s43 :: s44 :: s45 :: s46 :: []), []⟩ W := by
  refine of_onlyN (K := Q .normal) ?_ (fun _ _ h => h)
  generalize Q .normal = K at hQ ⊢
  have HQ := Lib.hid hQ; clear hQ
  conv => arg 2; whnf
  have keepS : ∀ w', RowKit.Below W.heap.size W w' → RowKit.Below W.heap.size W w' ∧ w'.cell? ⟨bx, 0, none⟩ = some (.pointer (some ⟨b, 0, none⟩)) ∧ w'.cell? ⟨b, 0, none⟩ = some (.slice (some ⟨g, o, none⟩) l.length cl) ∧ w'.cell? ⟨bn, 0, none⟩ = some (.int .i64 n) ∧ w'.cell? ⟨gv, ov, none⟩ = some (.int .i64 f) ∧ w'.cell? ⟨rb, 5, none⟩ = some (.string (atR l lst).code) ∧ w'.cell? ⟨g, o + n * 9 + 6, none⟩ = some (.string (atR l n).give) := fun w' hb => ⟨hb, (hb.cell (p := ⟨bx, 0, none⟩) hbx.1).trans hbx.2, (hb.cell (p := ⟨b, 0, none⟩) hb0.1).trans hb0.2, (hb.cell (p := ⟨bn, 0, none⟩) hbn.1).trans hbn.2, (hb.cell (p := ⟨gv, ov, none⟩) hf.1).trans hf.2, (hb.cell (p := ⟨rb, 5, none⟩) hrb.1).trans hrb.2, (hb.cell (p := ⟨g, o + n * 9 + 6, none⟩) hgv.1).trans hgv.2⟩
  have HX := Lib.hid hx
  have HC := Lib.hid hc
  have HCL := Lib.hid hcl
  clear hx hc hcl
  have hS0 := keepS _ (Below.refl W.heap.size W)
  have j0 := hS0.2.1
  have j1 := hS0.2.2.1
  have j2 := hS0.2.2.2.1
  have j3 := hS0.2.2.2.2.1
  have j4 := hS0.2.2.2.2.2.1
  have j5 := hS0.2.2.2.2.2.2
  have hS1 := keepS _ (Below.refl W.heap.size W).drew
  have i1 : (0 : Int) < (c.length : Int) := by omega
  have i2 : (n : Int) < (l.length : Int) := by omega
  by_cases h1 : f < n
  · have t1 : decide ((f : Int) < (n : Int)) = true := decide_eq_true (by omega)
    have t0 : decide (f < n) = true := decide_eq_true h1
    rw [t0] at HQ
    clear h1
    by_cases h2 : (atR l lst).code = (atR l n).give
    · have t2 : ((atR l lst).code.toList == (atR l n).give.toList) = true := by rw [h2]; simp
      rw [decide_eq_true h2] at HQ
      clear h2
      have HK : Hid (∀ w1, RowKit.Below W.heap.size W w1 → ∀ k ∈ c, ∀ w2, RowKit.Below w1.heap.size w1 w2 → Calls Tryz.prog 61 (#[.int .i64 k] ++ #[.pointer (some ⟨bx, 0, none⟩), .pointer (some ⟨bn, 0, none⟩)]) w2 fun e w' => e = .returned (.bool (decide ((atR l k).student = (atR l n).student))) ∧ RowKit.Below w2.heap.size w2 w') := Lib.hid fun w1 hb1 k hk w2 hb2 => same1_any bx bn b l can d k n w2 (HX.out.below (below_next hb1 hb2)) (keepS w2 (below_next hb1 hb2)).2.1 (keepS w2 (below_next hb1 hb2)).2.2.2.1 (HCL.out k hk) hn
      go_region_held3 (fun w' => RowKit.Below W.heap.size W w' ∧ w'.cell? ⟨bx, 0, none⟩ = some (.pointer (some ⟨b, 0, none⟩)) ∧ w'.cell? ⟨b, 0, none⟩ = some (.slice (some ⟨g, o, none⟩) l.length cl) ∧ w'.cell? ⟨bn, 0, none⟩ = some (.int .i64 n) ∧ w'.cell? ⟨gv, ov, none⟩ = some (.int .i64 f) ∧ w'.cell? ⟨rb, 5, none⟩ = some (.string (atR l lst).code) ∧ w'.cell? ⟨g, o + n * 9 + 6, none⟩ = some (.string (atR l n).give)) (first | exact hS1 | assumption)
        (first | (go_at_call 52; refine (containsJ_any 61 #[.pointer (some ⟨bx, 0, none⟩), .pointer (some ⟨bn, 0, none⟩)] (fun k => decide ((atR l k).student = (atR l n).student)) _ c W.drew (HC.out.below (Below.refl _ _).drew) (by omega) (enters_of Tryz.func61 (by kernel_rfl) rfl) (HK.out W.drew (Below.refl _ _).drew)).mono ?_; rintro _ w2 ⟨rfl, hb2⟩; have hS2 := keepS w2 (below_next (Below.refl _ _).drew hb2)))
      exact HQ.out _ _ _ _ _ _ _ _ _ _ _ _ _ _ _ _ _ _ _ _ _ _ _ _ _ hS2.1
    · have t2 : ((atR l lst).code.toList == (atR l n).give.toList) = false := by rw [beq_eq_false_iff_ne, ne_eq, req_ba]; exact h2
      rw [decide_eq_false h2] at HQ
      clear h2
      go_quiet (fail)
      exact HQ.out _ _ _ _ _ _ _ _ _ _ _ _ _ _ _ _ _ _ _ _ _ _ _ _ _ (blw_drewN (Below.refl _ _) _)
  · have t1 : decide ((f : Int) < (n : Int)) = false := decide_eq_false (by omega)
    have t0 : decide (f < n) = false := decide_eq_false h1
    rw [t0] at HQ
    clear h1
    go_quiet (fail)
    exact HQ.out _ _ _ _ _ _ _ _ _ _ _ _ _ _ _ _ _ _ _ _ _ _ _ _ _ (blw_drewN (Below.refl _ _) _)
end Go.Proofs.YtjcogpalmgcpbaaGreat
namespace Go.Proofs.YtjcogpalmgcpbaaGreat
open Go Go.Proofs Go.RowKit Go.Maps Go.Sort Go.Lib
attribute [local go_sem] Req.cells

theorem getLastD_get {c : List Nat} (h : 0 < c.length) : c[c.length - 1]? = some (c.getLastD 0) := by
  rw [List.getLastD_eq_getLast?, List.getLast?_eq_getElem?, List.getElem?_eq_getElem (by omega)]; rfl
theorem headD_get {c : List Nat} (h : 0 < c.length) : c[0]? = some (c.headD 0) := by
  cases c with
  | nil => cases h
  | cons x c => rfl
set_option maxHeartbeats 4000000 in
set_option maxRecDepth 100000 in
theorem follows_any (b : Nat) (l : List Req) (can : List Nat) (d : Deal) (c : List Nat) (pv : Option Addr) (cv n : Nat) (w : World) (hx : ExIn w b l can d) (hc : RowIn encN w (.slice pv c.length cv) c) (hcl : ∀ k ∈ c, k < l.length) (hn : n < l.length) (hl : c.length ≤ 1000000) :
    Calls Tryz.prog 44 #[.pointer (some ⟨b, 0, none⟩), .slice pv c.length cv, .int .i64 n] w fun e w' => e = .returned (.bool (followsB l c n)) ∧ RowKit.Below w.heap.size w w' := by
  have hbb := (below_alloc1 w (.cells #[.pointer (some ⟨b, 0, none⟩)] 62)).alloc (by simp) (.cells #[.int .i64 n] 3)
  have hb1 : ((w.alloc (.cells #[.pointer (some ⟨b, 0, none⟩)] 62)).alloc (.cells #[.int .i64 n] 3)).heap[w.heap.size]? = some (.cells #[.pointer (some ⟨b, 0, none⟩)] 62 (0, 0)) := by rw [(below_alloc1 _ _).block _ (by simp)]; exact heap_alloc_new w _
  have hb2 := new_two w (.cells #[.pointer (some ⟨b, 0, none⟩)] 62) (.cells #[.int .i64 n] 3)
  rcases Nat.eq_zero_or_pos c.length with h0 | h0
  · have e := List.eq_nil_of_length_eq_zero h0
    subst e
    go_enter Tryz.func44, Tryz.ntmps44
    go_wp2_with fail
    go_ret
    exact ⟨rfl, hbb⟩
  · have HX := Lib.hid hx
    obtain ⟨⟨pl, cl, pc, cc, ps, cs, pw, cw, hxb, hL, -, -, -⟩, -, -, -, -, -⟩ := hx
    have hcap : c.length ≤ cv := by obtain ⟨_, _, h, h2⟩ := hc.form; injection h with _ _ h; omega
    have HC := Lib.hid hc
    obtain ⟨gv, ov, rfl, hgv, hcv⟩ := nats_at hc rfl h0
    have hla := hcl _ (List.mem_of_getElem? (getLastD_get h0))
    have q1 := hcv _ _ (getLastD_get h0)
    have q2 := hcv _ _ (headD_get h0)
    obtain ⟨g, o, rfl, hg, hat⟩ := reqs_at hL (by omega)
    rw [Nat.add_zero] at q2
    have HF : Hid (followsB l c n = (decide (c.headD 0 < n) && decide ((atR l (c.getLastD 0)).code = (atR l n).give) && !(c.any fun k => decide ((atR l k).student = (atR l n).student)))) := Lib.hid (by
      unfold followsB
      cases c with
      | nil => cases h0
      | cons x c => rfl)
    have HCL := Lib.hid hcl
    have HAT := Lib.hid hat
    have e0 : ((c.length : Int) == 0) = false := by rw [beq_eq_false_iff_ne]; omega
    generalize c.getLastD 0 = a at *
    generalize c.headD 0 = f at *
    clear hc hcl hcv hL hat
    go_enter Tryz.func44, Tryz.ntmps44
    go_upto_region 3 with fail
    generalize World.alloc _ _ = W at hbb hb1 hb2 ⊢
    have hW : ∀ w', RowKit.Below W.heap.size W w' → RowKit.Below w.heap.size w w' := fun w' h => below_next hbb h
    refine fo_r3 w.heap.size b gv ov g o a cl cv l c W _ ⟨lt_of_heap hb1, Lib.cell_of_heap hb1 0⟩ ⟨lt_of_heap ((hbb.block b (lt_of_heap hxb)).trans hxb), Lib.cell_of_heap ((hbb.block b (lt_of_heap hxb)).trans hxb) 0⟩ h0 hl hcap ⟨Nat.lt_of_lt_of_le hgv hbb.size, (hbb.cell (p := ⟨gv, ov + (c.length - 1), none⟩) hgv).trans q1⟩ hla (Nat.lt_of_lt_of_le hg hbb.size) (fun j v hj => (hbb.cell (p := ⟨g, o + a * 9 + j, none⟩) hg).trans (HAT.out a hla j v hj)) ?_
    intro rb w3 hb3 hr3
    have hb4 := hW w3 hb3
    have hx3 := HX.out.below hb4
    have hxb3 := (hb4.block b (lt_of_heap hxb)).trans hxb
    have hbx3 := (hb3.block _ (lt_of_heap hb1)).trans hb1
    have hbn3 := (hb3.block _ (lt_of_heap hb2)).trans hb2
    have q23 := (hb4.cell (p := ⟨gv, ov, none⟩) hgv).trans q2
    have qn := (hb4.cell (p := ⟨g, o + n * 9 + 6, none⟩) hg).trans (HAT.out n hn 6 _ rfl)
    go_upto_region 4 with fail
    refine fo_r4 w.heap.size b (w.heap.size + 1) rb gv ov g o a f n cl cv l can d c w3 _ hx3 ⟨lt_of_heap hbx3, Lib.cell_of_heap hbx3 0⟩ ⟨lt_of_heap hxb3, Lib.cell_of_heap hxb3 0⟩ ⟨lt_of_heap hbn3, Lib.cell_of_heap hbn3 0⟩ ⟨Nat.lt_of_lt_of_le hgv hb4.size, q23⟩ ⟨lt_of_heap hr3, Lib.cell_of_heap hr3 5⟩ ⟨Nat.lt_of_lt_of_le hg hb4.size, qn⟩ h0 hl hcap (HC.out.below hb4) HCL.out hn ?_
    intro u23 u24 u25 u26 u27 u28 u29 u30 u31 u32 u33 u34 u35 u36 u37 u38 u39 u40 u41 u42 u43 u44 u45 u46 w5 hb5
    have hb6 := below_next hb4 hb5
    clear hr3 hx3 hxb3 hbx3 hbn3 q23 qn
    go_wp2_with fail
    go_ret
    exact ⟨ret_bool HF.out.symm, hb6⟩
theorem isB_to {l : List Req} {can c : List Nat} (h1 : 2 ≤ c.length) (h2 : c.length ≤ 4) (h : ∀ i, i < c.length → c.getD i 0 ∈ can ∧ followsB l (c.take i) (c.getD i 0) = true) : isB l can c = closesB l c := by
  unfold isB
  rw [decide_eq_true h1, decide_eq_true h2]
  have : (List.range c.length).all (fun i => decide (c.getD i 0 ∈ can) && followsB l (c.take i) (c.getD i 0)) = true := by
    rw [List.all_eq_true]
    intro i hi
    have := h i (List.mem_range.1 hi)
    rw [decide_eq_true this.1, this.2]; rfl
  rw [this]; rfl
theorem isB_out {l : List Req} {can c : List Nat} {i : Nat} (hi : i < c.length) (h : ¬ (c.getD i 0 ∈ can ∧ followsB l (c.take i) (c.getD i 0) = true)) : isB l can c = false := by
  unfold isB
  have : (List.range c.length).all (fun i => decide (c.getD i 0 ∈ can) && followsB l (c.take i) (c.getD i 0)) = false := by
    rw [List.all_eq_false]
    refine ⟨i, List.mem_range.2 hi, fun h2 => h ?_⟩
    simpa [Bool.and_eq_true] using h2
  rw [this]; simp
theorem mem_ints {n : Nat} {c : List Nat} : ((n : Int) ∈ intsOf c) ↔ n ∈ c := by
  unfold intsOf
  rw [List.mem_map]
  constructor
  · rintro ⟨k, hk, e⟩
    have : k = n := Int.ofNat.inj e
    subst this; exact hk
  · exact fun h => ⟨n, h, rfl⟩
set_option maxHeartbeats 4000000 in
set_option maxRecDepth 100000 in
theorem is_any (b : Nat) (l : List Req) (can : List Nat) (d : Deal) (c : List Nat) (pv : Option Addr) (cv : Nat) (w : World) (hx : ExIn w b l can d) (hc : RowIn encN w (.slice pv c.length cv) c) (hl : c.length ≤ 1000000) :
    Calls Tryz.prog 26 #[.pointer (some ⟨b, 0, none⟩), .slice pv c.length cv] w fun e w' => e = .returned (.bool (isB l can c)) ∧ RowKit.Below w.heap.size w w' := by
  by_cases h2 : 2 ≤ c.length
  · by_cases h4 : c.length ≤ 4
    · have t2 : decide ((c.length : Int) < 2) = false := decide_eq_false (by omega)
      have t4 : decide ((4 : Int) < (c.length : Int)) = false := decide_eq_false (by omega)
      have HX := Lib.hid hx
      have HC := Lib.hid hc
      obtain ⟨⟨pl, cl, pc, cc, ps, cs, pw, cw, hxb, -, hcan, -, -⟩, -, -, -, lcan, hcl⟩ := hx
      have HCAN := Lib.hid hcan
      have HCL := Lib.hid hcl
      have hcap : c.length ≤ cv := by obtain ⟨_, _, h, h2⟩ := hc.form; injection h with _ _ h; omega
      obtain ⟨gv, ov, rfl, hgv, hcv⟩ := nats_at hc rfl (by omega)
      have HCV := Lib.hid hcv
      clear hc hcan hcl hcv
      go_enter Tryz.func26, Tryz.ntmps26
      go_wp2_with fail
      go_loopw [17] (fun i wr => ∃ k : Nat, k ≤ c.length ∧ i = .int .i64 k ∧ Hid (∀ j, j < k → c.getD j 0 ∈ can ∧ followsB l (c.take j) (c.getD j 0) = true) ∧ RowKit.Below w.heap.size w wr) (fun i _ => c.length - (RowKit.intOf i).toNat)
      case atStart => exact ⟨0, Nat.zero_le _, rfl, Lib.hid (fun j hj => by omega), Below.refl _ _⟩
      case round =>
        obtain ⟨k, hk, rfl, HI, hbr⟩ := hrel
        by_cases hlt : k < c.length
        · have hz := List.getElem?_eq_getElem hlt
          have hgd : c.getD k 0 = c[k] := by rw [List.getD_eq_getElem?_getD, hz]; rfl
          have hck := (hbr.cell (p := ⟨gv, ov + k, none⟩) hgv).trans (HCV.out k _ hz)
          have HGD := Lib.hid hgd
          generalize c[k] = n at hck HGD
          clear hz hgd
          have hb1 : wr.cell? ⟨b, 1, none⟩ = some (.slice pc can.length cc) := (hbr.cell (p := ⟨b, 1, none⟩) (lt_of_heap hxb)).trans (Lib.cell_of_heap hxb 1)
          have i1 : (0 : Int) ≤ (k : Int) := by omega
          have i2 : (k : Int) < (c.length : Int) := by omega
          have i3 : (k : Int) ≤ (cv : Int) := by omega
          have i4 : (k : Int) ≤ (c.length : Int) := by omega
          go_wp2_with fail
          have hil : (intsOf can).length = can.length := intsOf_len can
          refine (contains_ints (.slice pc can.length cc) (intsOf can) n wr (rowN (HCAN.out.below hbr)) (by omega)).mono ?_
          rintro _ w2 ⟨rfl, rfl⟩
          by_cases hm : n ∈ can
          · rw [decide_eq_true (mem_ints.2 hm)]
            have hnl := HCL.out n hm
            have htl : (c.take k).length = k := by simp; omega
            have htk := (HC.out.below hbr).take (m := k) rfl hk
            have hct : ∀ x ∈ c.take k, x < l.length := fun x hx => by
              obtain ⟨j, hj, rfl⟩ := List.mem_iff_getElem.1 hx
              have hjk : j < k := by rw [htl] at hj; exact hj
              have := (HI.out j hjk).1
              rw [List.getElem_take]
              rw [List.getD_eq_getElem?_getD, List.getElem?_eq_getElem (by omega)] at this
              exact HCL.out _ this
            have cf := follows_any b l can d (c.take k) (some ⟨gv, ov, none⟩) cv n w2 (HX.out.below hbr) (by rw [htl]; exact htk) hct hnl (by omega)
            rw [htl] at cf
            have HM := Lib.hid hm
            clear hct htk hm htl hil
            go_wp2_with fail
            refine cf.mono ?_
            rintro _ w3 ⟨rfl, hb3⟩
            have hb4 := below_next hbr hb3
            generalize hG : followsB l (c.take k) n = G
            have HGF := Lib.hid hG
            clear hG cf
            cases G
            · go_wp2_with fail
              go_ret
              refine ⟨ret_bool (isB_out hlt (fun h => ?_)).symm, hb4⟩
              rw [HGD.out, HGF.out] at h
              exact absurd h.2 (by decide)
            · have HN : Hid (∀ j, j < k + 1 → c.getD j 0 ∈ can ∧ followsB l (c.take j) (c.getD j 0) = true) := Lib.hid fun j hj => by
                rcases Nat.lt_or_ge j k with h | h
                · exact HI.out j h
                · obtain rfl : j = k := by omega
                  rw [HGD.out]
                  exact ⟨HM.out, HGF.out⟩
              go_wp2_with fail
              go_roundw
              case rel => exact ⟨k + 1, by omega, by go_num, HN, hb4⟩
              case measure => simp [RowKit.intOf]; omega
          · rw [decide_eq_false (fun h => hm (mem_ints.1 h))]
            have HM := Lib.hid hm
            clear hm hil
            go_wp2_with fail
            go_ret
            refine ⟨ret_bool (isB_out hlt (fun h => ?_)).symm, hbr⟩
            rw [HGD.out] at h
            exact HM.out h.1
        · obtain rfl : k = c.length := by omega
          have hcl : ∀ x ∈ c, x < l.length := fun x hx => by
            obtain ⟨j, hj, rfl⟩ := List.mem_iff_getElem.1 hx
            have := (HI.out j hj).1
            rw [List.getD_eq_getElem?_getD, List.getElem?_eq_getElem hj] at this
            exact HCL.out _ this
          have cf := closes_any b l can d c (some ⟨gv, ov, none⟩) cv wr (HX.out.below hbr) (HC.out.below hbr) (by omega) hcl hl
          have HE := Lib.hid (isB_to h2 h4 HI.out)
          clear hcl
          go_wp2_with fail
          refine cf.mono ?_
          rintro _ w3 ⟨rfl, hb3⟩
          have hb4 := below_next hbr hb3
          clear cf
          go_wp2_with fail
          go_ret
          exact ⟨ret_bool HE.out.symm, hb4⟩
    · have t2 : decide ((c.length : Int) < 2) = false := decide_eq_false (by omega)
      have t4 : decide ((4 : Int) < (c.length : Int)) = true := decide_eq_true (by omega)
      have HE : Hid (isB l can c = false) := Lib.hid (by unfold isB; rw [decide_eq_false h4]; simp)
      clear hc hx
      go_enter Tryz.func26, Tryz.ntmps26
      go_wp2_with fail
      go_ret
      exact ⟨ret_bool HE.out.symm, Below.refl _ _⟩
  · have t2 : decide ((c.length : Int) < 2) = true := decide_eq_true (by omega)
    have HE : Hid (isB l can c = false) := Lib.hid (by unfold isB; rw [decide_eq_false h2]; simp)
    clear hc hx
    go_enter Tryz.func26, Tryz.ntmps26
    go_wp2_with fail
    go_ret
    exact ⟨ret_bool HE.out.symm, Below.refl _ _⟩
end Go.Proofs.YtjcogpalmgcpbaaGreat
