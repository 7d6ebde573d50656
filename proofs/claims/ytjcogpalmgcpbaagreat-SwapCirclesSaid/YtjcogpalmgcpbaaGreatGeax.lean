/- swap.newExchange: the requests that can be exchanged. -/
import Derived.Test.YtjcogpalmgcpbaaGreatGeau
import Derived.Test.YtjcogpalmgcpbaaGreatGeao
import Derived.Test.YtjcogpalmgcpbaaGreatGeas
import Derived.Test.YtjcogpalmgcpbaaGreatGean
import Derived.Deep.DeepCutAuto
import Derived.Deep.CutBlock
/- slices.Index, Contains at requests; swap.newExchange. -/
namespace Go.Proofs.YtjcogpalmgcpbaaGreat
open Go Go.Proofs Go.RowKit Go.Maps Go.Sort Go.Lib
attribute [local go_sem] Req.cells
section
attribute [local go_sem ↓] req_eql_cells
theorem not_takeR {l : List Req} {s x : Req} {k : Nat} (hx : l[k]? = some x) (h : s ∉ l.take k) (hne : eqReq s x = false) : s ∉ l.take (k + 1) := by
  rw [List.take_add_one, hx]
  intro hm
  simp only [Option.toList_some, List.mem_append, List.mem_singleton] at hm
  rcases hm with hm | hm
  · exact h hm
  · rw [(eqReq_iff s x).2 hm] at hne; cases hne
set_option maxHeartbeats 4000000 in
set_option maxRecDepth 100000 in
theorem index_reqs (v : Value) (l : List Req) (s : Req) (w : World) (h : RowIn encR w v l) (hl : l.length ≤ 1000000) :
    Calls Tryz.prog 58 #[v, s.val] w fun e w' => RowKit.Below w.heap.size w w' ∧
      ((s ∉ l ∧ e = .returned (.int .i64 (-1))) ∨ ∃ k : Nat, k < l.length ∧ l[k]? = some s ∧ e = .returned (.int .i64 k)) := by
  obtain ⟨q, c, rfl, _⟩ := h.form
  have hb0 : RowKit.Below w.heap.size w (w.alloc (.cells s.cells 41)) := below_alloc1 _ _
  have H := Lib.hid h
  have hc0 : ∀ j, (w.alloc (.cells s.cells 41)).cell? ⟨w.heap.size, j, none⟩ = s.cells[j]? := fun j => Lib.cell_of_heap (heap_alloc_new w _) j
  have hl0 : w.heap.size < (w.alloc (.cells s.cells 41)).heap.size := by simp
  clear h
  go_enter Tryz.func58, Tryz.ntmps58
  simp only [Req.cells] at hb0 hc0 hl0
  go_wp2_with fail
  generalize w.alloc _ = w0 at hb0 hc0 hl0 ⊢
  go_loopw [8] (fun i wr => ∃ k : Nat, k ≤ l.length ∧ i = .int .i64 k ∧ Hid (s ∉ l.take k) ∧ RowKit.Below w0.heap.size w0 wr) (fun i _ => l.length - (RowKit.intOf i).toNat)
  case atStart => exact ⟨0, Nat.zero_le _, rfl, Lib.hid (by simp), Below.refl _ _⟩
  case round =>
    obtain ⟨k, hk, rfl, HK, hbr⟩ := hrel
    by_cases hlt : k < l.length
    · obtain ⟨b, o, c', hv, _, hbl, hx⟩ := H.out.at_ (k := 9) (fun _ => rfl) (by omega)
      have e1 := (Value.slice.inj hv).1
      subst e1
      have hz := List.getElem?_eq_getElem hlt
      have hat := hx k _ hz
      generalize l[k] = x at hz hat
      have hbw : RowKit.Below w.heap.size w wr := below_next hb0 hbr
      have hat2 : ∀ j v, x.cells.toList[j]? = some v → wr.cell? ⟨b, o + k * 9 + j, none⟩ = some v := fun j v hj => by rw [hbw.cell (p := ⟨b, o + k * 9 + j, none⟩) hbl]; exact hat j v hj
      have h0 := hat2 0 _ rfl
      have h1 := hat2 1 _ rfl
      have h2 := hat2 2 _ rfl
      have h3 := hat2 3 _ rfl
      have h4 := hat2 4 _ rfl
      have h5 := hat2 5 _ rfl
      have h6 := hat2 6 _ rfl
      have h7 := hat2 7 _ rfl
      have h8 := hat2 8 _ rfl
      have hcr : ∀ j, wr.cell? ⟨w.heap.size, j, none⟩ = (#[.int .i64 s.server, .int .i64 s.seq, .bool s.cancel, .int .i64 s.student, .int .i64 s.term, .string s.code, .string s.give, .int .i64 s.priority, .int .i64 s.day] : Array Value)[j]? := fun j => (hbr.cell (p := ⟨w.heap.size, j, none⟩) hl0).trans (hc0 j)
      rw [Nat.add_zero] at h0
      have HZ := Lib.hid hz
      clear hv hx hz hat hat2
      generalize hG : eqReq s x = G
      have hG2 : eqReq ⟨s.server, s.seq, s.cancel, s.student, s.term, s.code, s.give, s.priority, s.day⟩ ⟨x.server, x.seq, x.cancel, x.student, x.term, x.code, x.give, x.priority, x.day⟩ = G := hG
      have HG := Lib.hid hG
      clear hG
      cases G
      · go_wp2_with fail
        go_quiet (fail)
        go_wp2_with fail
        go_roundw
        case rel => exact ⟨k + 1, by omega, by go_num, Lib.hid (not_takeR HZ.out HK.out HG.out), blw_drewN hbr _⟩
        case measure => simp [RowKit.intOf]; omega
      · go_wp2_with fail
        go_quiet (fail)
        go_wp2_with fail
        go_ret
        refine ⟨blw_drewN hbw _, .inr ⟨k, hlt, ?_, rfl⟩⟩
        rw [HZ.out, ← (eqReq_iff s x).1 HG.out]
    · obtain rfl : k = l.length := by omega
      have hk2 := HK.out
      rw [List.take_length] at hk2
      go_wp2_with fail
      go_ret
      exact ⟨below_next hb0 hbr, .inl ⟨hk2, rfl⟩⟩
end
theorem contains_reqs (v : Value) (l : List Req) (s : Req) (w : World) (h : RowIn encR w v l) (hl : l.length ≤ 1000000) :
    Calls Tryz.prog 38 #[v, s.val] w fun e w' => e = .returned (.bool (decide (s ∈ l))) ∧ RowKit.Below w.heap.size w w' := by
  have hb0 : RowKit.Below w.heap.size w (w.alloc (.cells s.cells 41)) := below_alloc1 _ _
  have hc0 : ∀ j, (w.alloc (.cells s.cells 41)).cell? ⟨w.heap.size, j, none⟩ = s.cells[j]? := fun j => Lib.cell_of_heap (heap_alloc_new w _) j
  obtain ⟨q, c, rfl, _⟩ := h.form
  go_enter Tryz.func38, Tryz.ntmps38
  simp only [Req.cells] at hb0 hc0
  go_wp2_with fail
  refine (index_reqs _ l s _ (h.below hb0) hl).mono ?_
  rintro _ w1 ⟨hb, ⟨hn, rfl⟩ | ⟨k, hk, hs, rfl⟩⟩
  · go_wp2_with fail
    go_ret
    exact ⟨ret_bool (by rw [decide_eq_false hn]), hb0.trans (hb.mono hb0.size)⟩
  · have hm := List.mem_of_getElem? hs
    have hk0 : (k : Int) ≥ 0 := by omega
    go_wp2_with fail
    go_ret
    exact ⟨ret_bool (by rw [decide_eq_true hm]), hb0.trans (hb.mono hb0.size)⟩
/-- newExchange's own 'seat'. -/
theorem hasx_any (v : Value) (l : List Seat) (s : Seat) (w : World) (h : RowIn Seat.cells w v l) (hl : l.length ≤ 1000000) :
    Calls Tryz.prog 37 #[v, .int .i64 s.student, .string s.code] w fun e w' => e = .returned (.bool (decide (s ∈ l))) ∧ RowKit.Below w.heap.size w w' := by
  obtain ⟨q, c, rfl, _⟩ := h.form
  go_enter Tryz.func37, Tryz.ntmps37
  go_wp2_with fail
  refine (contains_seats _ l s w h hl).mono ?_
  rintro _ w1 ⟨rfl, hb⟩
  go_wp2_with fail
  go_ret
  exact ⟨rfl, hb⟩
end Go.Proofs.YtjcogpalmgcpbaaGreat
namespace Go.Proofs.YtjcogpalmgcpbaaGreat
open Go Go.Proofs Go.RowKit Go.Maps Go.Sort Go.Lib
attribute [local go_sem] Seat.cells Req.cells

def encN (n : Nat) : List Value := [.int .i64 n]
theorem natT : RowT Tryz.prog encN 1 3 22 where
  len _ := rfl
  one r u hu := by simp [encN] at hu; subst hu; rfl
  pos := by decide
  und := Tryz.underlying22
  info := by
    obtain ⟨i0, hi, h1, h2, h3⟩ := info_parts (show (Tryz.prog.info? 3).map (fun i => (i.zero, i.size, i.bytes)) = some (some (.int .i64 0), 1, 8) by kernel_rfl)
    exact ⟨i0, _, hi, h1, h2, rfl, by omega⟩
def intsOf (c : List Nat) : List Int := c.map Int.ofNat
theorem intsOf_len (c : List Nat) : (intsOf c).length = c.length := List.length_map _
theorem flatN (c : List Nat) : flatE encN c = flatE encI (intsOf c) := by
  induction c with
  | nil => rfl
  | cons n c ih =>
    show encN n ++ flatE encN c = encI (Int.ofNat n) ++ flatE encI (intsOf c)
    rw [ih]; rfl
theorem rowN {w : World} {v : Value} {c : List Nat} (h : RowIn encN w v c) : RowIn encI w v (intsOf c) := by
  obtain ⟨p, e, rfl, h1, h2, h3⟩ := h
  refine ⟨p, e, by rw [intsOf_len], by rw [intsOf_len]; exact h1, h2, fun hl => ?_⟩
  obtain ⟨b, o, hp, hb, hx⟩ := h3 (by rwa [intsOf_len] at hl)
  exact ⟨b, o, hp, hb, fun j u hj => hx j u (by rw [flatN]; exact hj)⟩
theorem rowN' {w : World} {v : Value} {c : List Nat} (h : RowIn encI w v (intsOf c)) : RowIn encN w v c := by
  obtain ⟨p, e, rfl, h1, h2, h3⟩ := h
  rw [intsOf_len] at h1 h3
  refine ⟨p, e, by rw [intsOf_len], h1, h2, fun hl => ?_⟩
  obtain ⟨b, o, hp, hb, hx⟩ := h3 hl
  exact ⟨b, o, hp, hb, fun j u hj => hx j u (by rw [← flatN]; exact hj)⟩
/-- An exchange, as a world holds it. -/
structure ExIn (w : World) (b : Nat) (l : List Req) (can : List Nat) (d : Deal) : Prop where
  box : ∃ pl cl pc cc ps cs pw cw, w.heap[b]? = some (.cells #[.slice pl l.length cl, .slice pc can.length cc, .slice ps d.seats.length cs, .slice pw d.waits.length cw] 85 (0, 0)) ∧ RowIn encR w (.slice pl l.length cl) l ∧ RowIn encN w (.slice pc can.length cc) can ∧ RowIn Seat.cells w (.slice ps d.seats.length cs) d.seats ∧ RowIn Seat.cells w (.slice pw d.waits.length cw) d.waits
  ll : l.length ≤ 1000000
  ls : d.seats.length ≤ 1000000
  lw : d.waits.length ≤ 1000000
  lc : can.length ≤ 1000000
  can : ∀ n ∈ can, n < l.length
theorem ExIn.below {w w' : World} {b : Nat} {l : List Req} {can : List Nat} {d : Deal} (h : ExIn w b l can d) (hb : RowKit.Below w.heap.size w w') : ExIn w' b l can d := by
  obtain ⟨⟨pl, cl, pc, cc, ps, cs, pw, cw, h0, h1, h2, h3, h4⟩, a, c, e, f, g⟩ := h
  exact ⟨⟨pl, cl, pc, cc, ps, cs, pw, cw, (hb.block b (lt_of_heap h0)).trans h0, h1.below hb, h2.below hb, h3.below hb, h4.below hb⟩, a, c, e, f, g⟩

set_option maxHeartbeats 4000000 in
set_option maxRecDepth 100000 in
theorem nx_r7 {s0 s1 s2 s4 s5 s7 s8 s10 s11 s12 s13 s14 s15 s16 s17 s18 s19 s20 s21 s22 s23 s24 s25 s26 s27 s28 s29 s30 s31 s32 s33 s34 s35 s36 s37 s38 s39 s40 s41 s42 s43 s44 s45 s46 s47 s48 s49 s50 s51 s52 s53 s54 s55 s56 s57 s58 s59 s60 s61 s62 s63 s64 s65 s66 s67 s68 s69 s70 s71 s72 s73 s74 s75 s76 s77 s78 s79 s80 s81 s82 : Value} (db rb : Nat) (ps pw : Option Addr) (cs cw : Nat) (d : Deal) (r : Req) (W : World) (Q : Exit → Act → World → Prop) (hr : RowIn Seat.cells W (.slice ps d.seats.length cs) d.seats) (_hw : RowIn Seat.cells W (.slice pw d.waits.length cw) d.waits) (ls : d.seats.length ≤ 1000000) (_lw : d.waits.length ≤ 1000000) (hdb : (db < W.heap.size ∧ ∀ j, W.cell? ⟨db, j, none⟩ = (#[.slice ps d.seats.length cs, .slice pw d.waits.length cw] : Array Value)[j]?)) (hrb : (rb < W.heap.size ∧ ∀ j, W.cell? ⟨rb, j, none⟩ = (#[.int .i64 r.server, .int .i64 r.seq, .bool r.cancel, .int .i64 r.student, .int .i64 r.term, .string r.code, .string r.give, .int .i64 r.priority, .int .i64 r.day] : Array Value)[j]?))
    (hQ : ∀ (u24 u25 u26 u27 u28 u29 u30 u31 u32 u33 u34 u35 u36 u37 u38 u39 u40 u41 u42 u43 : Value)  (wx : World), RowKit.Below W.heap.size W wx → Q .normal ⟨List.toArray (s0 :: s1 :: s2 :: .pointer (some ⟨db, 0, none⟩) :: s4 :: s5 :: .func (.func 37) #[] #[] :: s7 :: s8 :: .pointer (some ⟨rb, 0, none⟩) :: .bool (!decide (r.give.size = 0) && !decide (r.give = r.code) && decide (giveOf r ∈ d.seats)) :: s11 :: s12 :: s13 :: s14 :: s15 :: s16 :: s17 :: s18 :: s19 :: s20 :: s21 :: s22 :: s23 :: u24 :: u25 :: u26 :: u27 :: u28 :: u29 :: u30 :: u31 :: u32 :: u33 :: u34 :: u35 :: u36 :: u37 :: u38 :: u39 :: u40 :: u41 :: u42 :: u43 :: s44 :: s45 :: s46 :: s47 :: s48 :: s49 :: s50 :: s51 :: s52 :: s53 :: s54 :: s55 :: s56 :: s57 :: s58 :: s59 :: s60 :: s61 :: s62 :: s63 :: s64 :: s65 :: s66 :: s67 :: s68 :: s69 :: s70 :: s71 :: s72 :: s73 :: s74 :: s75 :: s76 :: s77 :: s78 :: s79 :: s80 :: s81 :: s82 :: []), []⟩ wx) :
    (regionOf Tryz.f22 7).wp Tryz.prog Q ⟨List.toArray (s0 :: s1 :: s2 :: .pointer (some ⟨db, 0, none⟩) :: s4 :: s5 :: .func (.func 37) #[] #[] :: s7 :: s8 :: .pointer (some ⟨rb, 0, none⟩) :: s10 :: s11 :: s12 :: s13 :: s14 :: s15 :: s16 :: s17 :: s18 :: s19 :: s20 :: s21 :: s22 :: s23 :: s24 :: s25 :: s26 :: s27 :: s28 :: s29 :: s30 :: s31 :: s32 :: s33 :: s34 :: s35 :: s36 :: s37 :: s38 :: s39 :: s40 :: s41 :: s42 :: s43 :: s44 :: s45 :: s46 :: s47 :: s48 :: s49 :: s50 :: s51 :: s52 :: s53 :: s54 :: s55 :: s56 :: s57 :: s58 :: s59 :: s60 :: s61 :: s62 :: s63 :: s64 :: s65 :: s66 :: s67 :: s68 :: s69 :: s70 :: s71 :: s72 :: s73 :: s74 :: s75 :: s76 :: s77 :: s78 :: s79 :: s80 :: s81 :: s82 :: []), []⟩ W := by
  refine of_onlyN (K := Q .normal) ?_ (fun _ _ h => h)
  generalize Q .normal = K at hQ ⊢
  have HQ := Lib.hid hQ; clear hQ
  conv => arg 2; whnf
  have keepS : ∀ w', RowKit.Below W.heap.size W w' → (∀ j, w'.cell? ⟨db, j, none⟩ = (#[.slice ps d.seats.length cs, .slice pw d.waits.length cw] : Array Value)[j]?) ∧ (∀ j, w'.cell? ⟨rb, j, none⟩ = (#[.int .i64 r.server, .int .i64 r.seq, .bool r.cancel, .int .i64 r.student, .int .i64 r.term, .string r.code, .string r.give, .int .i64 r.priority, .int .i64 r.day] : Array Value)[j]?) := fun w' hb => ⟨fun j => (hb.cell (p := ⟨db, j, none⟩) hdb.1).trans (hdb.2 j), fun j => (hb.cell (p := ⟨rb, j, none⟩) hrb.1).trans (hrb.2 j)⟩
  have H0 := hdb.2
  have H1 := hrb.2
  have HR := Lib.hid hr
  clear hr
  by_cases h1 : r.give.size = 0
  · have t1 : (!r.give.toList.isEmpty) = false := by rw [give_test, decide_eq_true h1]; rfl
    rw [decide_eq_true h1] at HQ
    clear h1
    go_wp2_with fail
    exact HQ.out _ _ _ _ _ _ _ _ _ _ _ _ _ _ _ _ _ _ _ _ _ (Below.refl _ _)
  · have t1 : (!r.give.toList.isEmpty) = true := by rw [give_test, decide_eq_false h1]; rfl
    rw [decide_eq_false h1] at HQ
    clear h1
    by_cases h2 : r.give = r.code
    · have t2 : (r.give.toList == r.code.toList) = true := by rw [h2]; simp
      have t3 : (r.give.toList != r.code.toList) = false := by rw [h2]; simp
      rw [decide_eq_true h2] at HQ
      clear h2
      go_wp2_with fail
      exact HQ.out _ _ _ _ _ _ _ _ _ _ _ _ _ _ _ _ _ _ _ _ _ (Below.refl _ _)
    · have t2 : (r.give.toList == r.code.toList) = false := by rw [beq_eq_false_iff_ne, ne_eq, req_ba]; exact h2
      have t3 : (r.give.toList != r.code.toList) = true := by rw [bne_iff_ne, ne_eq, req_ba]; exact h2
      rw [decide_eq_false h2] at HQ
      clear h2
      go_wp2_with fail
      refine (hasx_any (.slice ps d.seats.length cs) d.seats (giveOf r) W HR.out (by omega)).mono ?_
      rintro _ w2 ⟨rfl, hb2⟩
      generalize hG : decide (giveOf r ∈ d.seats) = G
      rw [hG] at HQ
      clear hG
      go_wp2_with fail
      exact HQ.out _ _ _ _ _ _ _ _ _ _ _ _ _ _ _ _ _ _ _ _ _ hb2

set_option maxHeartbeats 4000000 in
set_option maxRecDepth 100000 in
theorem nx_r8 {s0 s1 s2 s4 s7 s8 s11 s12 s13 s14 s15 s16 s17 s18 s19 s20 s21 s22 s23 s24 s25 s26 s27 s28 s29 s30 s31 s32 s33 s34 s35 s36 s37 s38 s39 s40 s41 s42 s43 s44 s45 s46 s47 s48 s49 s50 s51 s52 s53 s54 s55 s56 s57 s58 s59 s60 s61 s62 s63 s64 s65 s66 s67 s68 s69 s70 s71 s72 s73 s74 s75 s76 s77 s78 s79 s80 s81 s82 : Value} (db rb : Nat) (ps pw pa : Option Addr) (cs cw ca : Nat) (d : Deal) (r : Req) (A : List Req) (g : Bool) (W : World) (Q : Exit → Act → World → Prop) (hr : RowIn Seat.cells W (.slice ps d.seats.length cs) d.seats) (hw : RowIn Seat.cells W (.slice pw d.waits.length cw) d.waits) (ls : d.seats.length ≤ 1000000) (lw : d.waits.length ≤ 1000000) (hdb : (db < W.heap.size ∧ ∀ j, W.cell? ⟨db, j, none⟩ = (#[.slice ps d.seats.length cs, .slice pw d.waits.length cw] : Array Value)[j]?)) (hrb : (rb < W.heap.size ∧ ∀ j, W.cell? ⟨rb, j, none⟩ = (#[.int .i64 r.server, .int .i64 r.seq, .bool r.cancel, .int .i64 r.student, .int .i64 r.term, .string r.code, .string r.give, .int .i64 r.priority, .int .i64 r.day] : Array Value)[j]?)) (ha : RowIn encR W (.slice pa A.length ca) A) (la : A.length ≤ 1000000)
    (hQ : ∀ (u44 u45 u46 u47 u48 u49 u50 u51 u52 u53 u54 u55 u56 u57 u58 u59 u60 u61 u62 u63 u64 u65 u66 u67 u68 u69 : Value)  (wx : World), RowKit.Below W.heap.size W wx → Q .normal ⟨List.toArray (s0 :: s1 :: s2 :: .pointer (some ⟨db, 0, none⟩) :: s4 :: .slice pa A.length ca :: .func (.func 37) #[] #[] :: s7 :: s8 :: .pointer (some ⟨rb, 0, none⟩) :: .bool g :: s11 :: s12 :: s13 :: s14 :: s15 :: s16 :: s17 :: s18 :: s19 :: s20 :: s21 :: s22 :: s23 :: s24 :: s25 :: s26 :: s27 :: s28 :: s29 :: s30 :: s31 :: s32 :: s33 :: s34 :: s35 :: s36 :: s37 :: s38 :: s39 :: s40 :: s41 :: s42 :: s43 :: u44 :: u45 :: u46 :: u47 :: u48 :: u49 :: u50 :: u51 :: u52 :: u53 :: u54 :: u55 :: u56 :: u57 :: u58 :: u59 :: u60 :: u61 :: u62 :: u63 :: u64 :: u65 :: u66 :: u67 :: u68 :: u69 :: .bool (g && decide (seatOf r ∈ d.waits) && !decide (seatOf r ∈ d.seats) && decide (r ∈ A)) :: s71 :: s72 :: s73 :: s74 :: s75 :: s76 :: s77 :: s78 :: s79 :: s80 :: s81 :: s82 :: []), []⟩ wx) :
    (regionOf Tryz.f22 8).wp Tryz.prog Q ⟨List.toArray (s0 :: s1 :: s2 :: .pointer (some ⟨db, 0, none⟩) :: s4 :: .slice pa A.length ca :: .func (.func 37) #[] #[] :: s7 :: s8 :: .pointer (some ⟨rb, 0, none⟩) :: .bool g :: s11 :: s12 :: s13 :: s14 :: s15 :: s16 :: s17 :: s18 :: s19 :: s20 :: s21 :: s22 :: s23 :: s24 :: s25 :: s26 :: s27 :: s28 :: s29 :: s30 :: s31 :: s32 :: s33 :: s34 :: s35 :: s36 :: s37 :: s38 :: s39 :: s40 :: s41 :: s42 :: s43 :: s44 :: s45 :: s46 :: s47 :: s48 :: s49 :: s50 :: s51 :: s52 :: s53 :: s54 :: s55 :: s56 :: s57 :: s58 :: s59 :: s60 :: s61 :: s62 :: s63 :: s64 :: s65 :: s66 :: s67 :: s68 :: s69 :: s70 :: s71 :: s72 :: s73 :: s74 :: s75 :: s76 :: s77 :: s78 :: s79 :: s80 :: s81 :: s82 :: []), []⟩ W := by
  refine of_onlyN (K := Q .normal) ?_ (fun _ _ h => h)
  generalize Q .normal = K at hQ ⊢
  have HQ := Lib.hid hQ; clear hQ
  conv => arg 2; whnf
  have keepS : ∀ w', RowKit.Below W.heap.size W w' → (∀ j, w'.cell? ⟨db, j, none⟩ = (#[.slice ps d.seats.length cs, .slice pw d.waits.length cw] : Array Value)[j]?) ∧ (∀ j, w'.cell? ⟨rb, j, none⟩ = (#[.int .i64 r.server, .int .i64 r.seq, .bool r.cancel, .int .i64 r.student, .int .i64 r.term, .string r.code, .string r.give, .int .i64 r.priority, .int .i64 r.day] : Array Value)[j]?) := fun w' hb => ⟨fun j => (hb.cell (p := ⟨db, j, none⟩) hdb.1).trans (hdb.2 j), fun j => (hb.cell (p := ⟨rb, j, none⟩) hrb.1).trans (hrb.2 j)⟩
  have H0 := hdb.2
  have H1 := hrb.2
  have HR := Lib.hid hr
  have HW := Lib.hid hw
  have HA := Lib.hid ha
  clear hr hw ha
  cases g
  · go_wp2_with fail
    exact HQ.out _ _ _ _ _ _ _ _ _ _ _ _ _ _ _ _ _ _ _ _ _ _ _ _ _ _ _ (Below.refl _ _)
  · go_wp2_with fail
    refine (hasx_any (.slice pw d.waits.length cw) d.waits (seatOf r) W HW.out (by omega)).mono ?_
    rintro _ w2 ⟨rfl, hb2⟩
    generalize decide (seatOf r ∈ d.waits) = G at HQ ⊢
    cases G
    · go_wp2_with fail
      exact HQ.out _ _ _ _ _ _ _ _ _ _ _ _ _ _ _ _ _ _ _ _ _ _ _ _ _ _ _ hb2
    · have H2 := (keepS w2 hb2).1
      have H3 := (keepS w2 hb2).2
      go_wp2_with fail
      refine (hasx_any (.slice ps d.seats.length cs) d.seats (seatOf r) w2 (HR.out.below hb2) (by omega)).mono ?_
      rintro _ w3 ⟨rfl, hb3⟩
      have hb4 := below_next hb2 hb3
      generalize decide (seatOf r ∈ d.seats) = G2 at HQ ⊢
      cases G2
      · have H4 := (keepS w3 hb4).2
        go_wp2_with fail
        refine (contains_reqs (.slice pa A.length ca) A r w3 (HA.out.below hb4) (by omega)).mono ?_
        rintro _ w4 ⟨rfl, hb5⟩
        have hb6 := below_next hb4 hb5
        generalize decide (r ∈ A) = G3 at HQ ⊢
        go_wp2_with fail
        exact HQ.out _ _ _ _ _ _ _ _ _ _ _ _ _ _ _ _ _ _ _ _ _ _ _ _ _ _ _ hb6
      · go_wp2_with fail
        exact HQ.out _ _ _ _ _ _ _ _ _ _ _ _ _ _ _ _ _ _ _ _ _ _ _ _ _ _ _ hb4
theorem ex_set {w : World} {b : Nat} {x y z u : Value} {t : TypeId} (h : w.heap[b]? = some (.cells #[x, y, z, u] t (0, 0))) (v : Value) : (w.setCell ⟨b, 1, none⟩ v).heap[b]? = some (.cells #[x, v, z, u] t (0, 0)) := by
  simp [World.setCell, Array.getElem?_modify, h]

set_option maxHeartbeats 4000000 in
set_option maxRecDepth 100000 in
theorem nx_b0 {s0 s1 s2 s4 s8 s9 s10 s11 s12 s13 s14 s15 s16 s20 s21 s22 s23 s24 s25 s26 s27 s28 s29 s30 s31 s32 s33 s34 s35 s36 s37 s38 s39 s40 s41 s42 s43 s44 s45 s46 s47 s48 s49 s50 s51 s52 s53 s54 s55 s56 s57 s58 s59 s60 s61 s62 s63 s64 s65 s66 s67 s68 s69 s70 s71 s72 s73 s74 s75 s76 s77 s78 s79 s80 s81 s82 : Value} (W0 : World) (db xb : Nat) (pl ps pw pa : Option Addr) (cl cs cw ca : Nat) (d : Deal) (l A : List Req) (W : World) (Q : Exit → Act → World → Prop) (h0 : W0.heap.size = xb) (hW : RowKit.Below xb W0 W) (hx : W.heap[xb]? = some (.cells #[.slice pl l.length cl, .slice none 0 0, .slice ps d.seats.length cs, .slice pw d.waits.length cw] 85 (0, 0))) (hL : RowIn encR W0 (.slice pl l.length cl) l) (hA : RowIn encR W0 (.slice pa A.length ca) A) (hr : RowIn Seat.cells W0 (.slice ps d.seats.length cs) d.seats) (hw : RowIn Seat.cells W0 (.slice pw d.waits.length cw) d.waits) (ll : l.length ≤ 1000000) (la : A.length ≤ 1000000) (ls : d.seats.length ≤ 1000000) (lw : d.waits.length ≤ 1000000) (hdb : db < W0.heap.size ∧ ∀ j, W0.cell? ⟨db, j, none⟩ = (#[.slice ps d.seats.length cs, .slice pw d.waits.length cw] : Array Value)[j]?)
    (hQ : ∀ (u8 u9 u10 u19 u20 u21 u22 u23 u24 u25 u26 u27 u28 u29 u30 u31 u32 u33 u34 u35 u36 u37 u38 u39 u40 u41 u42 u43 u44 u45 u46 u47 u48 u49 u50 u51 u52 u53 u54 u55 u56 u57 u58 u59 u60 u61 u62 u63 u64 u65 u66 u67 u68 u69 u70 u71 u72 u73 u74 u75 u76 u77 u78 u79 u80 u81 : Value) (pc : Option Addr) (cc : Nat) (wx : World), wx.heap[xb]? = some (.cells #[.slice pl l.length cl, .slice pc (canP A d l).length cc, .slice ps d.seats.length cs, .slice pw d.waits.length cw] 85 (0, 0)) → wx.ownsRow (xb + 1) 3 1 (.slice pc (canP A d l).length cc) (canP A d l).length (flatE encN (canP A d l)) → RowKit.Below xb W0 wx → Q .normal ⟨List.toArray (s0 :: s1 :: s2 :: .pointer (some ⟨db, 0, none⟩) :: s4 :: .slice pa A.length ca :: .func (.func 37) #[] #[] :: .pointer (some ⟨xb, 0, none⟩) :: u8 :: u9 :: u10 :: s11 :: s12 :: s13 :: s14 :: s15 :: s16 :: .slice pl l.length cl :: .int .i64 l.length :: u19 :: u20 :: u21 :: u22 :: u23 :: u24 :: u25 :: u26 :: u27 :: u28 :: u29 :: u30 :: u31 :: u32 :: u33 :: u34 :: u35 :: u36 :: u37 :: u38 :: u39 :: u40 :: u41 :: u42 :: u43 :: u44 :: u45 :: u46 :: u47 :: u48 :: u49 :: u50 :: u51 :: u52 :: u53 :: u54 :: u55 :: u56 :: u57 :: u58 :: u59 :: u60 :: u61 :: u62 :: u63 :: u64 :: u65 :: u66 :: u67 :: u68 :: u69 :: u70 :: u71 :: u72 :: u73 :: u74 :: u75 :: u76 :: u77 :: u78 :: u79 :: u80 :: u81 :: s82 :: []), []⟩ wx) :
    (blockOf Tryz.f22 0).wp Tryz.prog Q ⟨List.toArray (s0 :: s1 :: s2 :: .pointer (some ⟨db, 0, none⟩) :: s4 :: .slice pa A.length ca :: .func (.func 37) #[] #[] :: .pointer (some ⟨xb, 0, none⟩) :: s8 :: s9 :: s10 :: s11 :: s12 :: s13 :: s14 :: s15 :: s16 :: .slice pl l.length cl :: .int .i64 l.length :: .int .i64 0 :: s20 :: s21 :: s22 :: s23 :: s24 :: s25 :: s26 :: s27 :: s28 :: s29 :: s30 :: s31 :: s32 :: s33 :: s34 :: s35 :: s36 :: s37 :: s38 :: s39 :: s40 :: s41 :: s42 :: s43 :: s44 :: s45 :: s46 :: s47 :: s48 :: s49 :: s50 :: s51 :: s52 :: s53 :: s54 :: s55 :: s56 :: s57 :: s58 :: s59 :: s60 :: s61 :: s62 :: s63 :: s64 :: s65 :: s66 :: s67 :: s68 :: s69 :: s70 :: s71 :: s72 :: s73 :: s74 :: s75 :: s76 :: s77 :: s78 :: s79 :: s80 :: s81 :: s82 :: []), []⟩ W := by
  refine of_onlyN (K := Q .normal) ?_ (fun _ _ h => h)
  generalize Q .normal = K at hQ ⊢
  have HQ := Lib.hid hQ; clear hQ
  conv => arg 2; whnf
  have HL := Lib.hid hL
  have HA := Lib.hid hA
  have HR := Lib.hid hr
  have HW := Lib.hid hw
  clear hL hA hr hw
  subst h0
  go_wp2_with fail
  go_loopw [19] (fun i wr => ∃ (k : Nat) (C : List Nat) (pc : Option Addr) (cc : Nat), k ≤ l.length ∧ i = .int .i64 k ∧ Hid (C = canTo A d l k) ∧ wr.heap[W0.heap.size]? = some (.cells #[.slice pl l.length cl, .slice pc C.length cc, .slice ps d.seats.length cs, .slice pw d.waits.length cw] 85 (0, 0)) ∧ wr.ownsRow (W0.heap.size + 1) 3 1 (.slice pc C.length cc) C.length (flatE encN C) ∧ RowKit.Below W0.heap.size W0 wr) (fun i _ => l.length - (RowKit.intOf i).toNat)
  case atStart => exact ⟨0, [], none, 0, Nat.zero_le _, rfl, Lib.hid rfl, hx, World.ownsRow_nil _ _ _ _, hW⟩
  case round =>
    clear hx hW
    obtain ⟨k, C, pc, cc, hk, rfl, HI, hx, hown, hbr⟩ := hrel
    have lt1 := lt_of_heap hx
    by_cases hlt : k < l.length
    · obtain ⟨g, of, c', hv, _, hgl, hxr⟩ := HL.out.at_ (k := 9) (fun _ => rfl) (by omega)
      have e1 := (Value.slice.inj hv).1
      subst e1
      have hz := List.getElem?_eq_getElem hlt
      have hat := hxr k _ hz
      have HTK := Lib.hid (canTo_succ A d l k)
      rw [atR_get hz] at HTK
      generalize l[k] = r at hz hat HTK
      have lC : C.length ≤ k := by rw [HI.out]; exact canTo_len _ _ _ _
      have hatk : wr.rangeAt g (of + k * 9) r.cells.toList := fun j v hj => by rw [hbr.cell (p := ⟨g, of + k * 9 + j, none⟩) hgl]; exact hat j v hj
      have hb4 : RowKit.Below wr.heap.size wr (wr.alloc (.cells #[.int .i64 r.server, .int .i64 r.seq, .bool r.cancel, .int .i64 r.student, .int .i64 r.term, .string r.code, .string r.give, .int .i64 r.priority, .int .i64 r.day] 41)) := below_alloc1 _ _
      have hbx : ∀ j, (wr.alloc (.cells #[.int .i64 r.server, .int .i64 r.seq, .bool r.cancel, .int .i64 r.student, .int .i64 r.term, .string r.code, .string r.give, .int .i64 r.priority, .int .i64 r.day] 41)).cell? ⟨wr.heap.size, j, none⟩ = (#[.int .i64 r.server, .int .i64 r.seq, .bool r.cancel, .int .i64 r.student, .int .i64 r.term, .string r.code, .string r.give, .int .i64 r.priority, .int .i64 r.day] : Array Value)[j]? := fun j => Lib.cell_of_heap (heap_alloc_new wr _) j
      have hbl : wr.heap.size < (wr.alloc (.cells #[.int .i64 r.server, .int .i64 r.seq, .bool r.cancel, .int .i64 r.student, .int .i64 r.term, .string r.code, .string r.give, .int .i64 r.priority, .int .i64 r.day] 41)).heap.size := by simp
      have hx4 := (hb4.block _ lt1).trans hx
      have hown4 := own_below hown hb4
      have hbw := below_next hbr hb4
      have i1 : (0 : Int) ≤ (k : Int) := by omega
      have i2 : (k : Int) < (l.length : Int) := by omega
      clear hv hxr hz hat
      go_upto_region 7 with ((with_reducible refine wpList_load_mid (op := ⟨some 23, _, _, _, _, _⟩) ?_ 41 (.tmp 22) ?_ g (of + k * 9) ?_ r.cells.toList _ ?_ Tryz.underlying41 ?_ ?_ ?_); rfl; rfl; rfl; exact hatk; rfl; kernel_rfl)
      clear hatk hx hown lt1 hbr
      generalize wr.heap.size = rb at hbx hbl ⊢
      generalize wr.alloc _ = w4 at hbx hbl hx4 hown4 hbw ⊢
      clear hb4
      have hdb4 : db < w4.heap.size ∧ ∀ j, w4.cell? ⟨db, j, none⟩ = (#[.slice ps d.seats.length cs, .slice pw d.waits.length cw] : Array Value)[j]? := ⟨Nat.lt_of_lt_of_le hdb.1 hbw.size, fun j => (hbw.cell (p := ⟨db, j, none⟩) hdb.1).trans (hdb.2 j)⟩
      refine nx_r7 db rb ps pw cs cw d r w4 _ (HR.out.below hbw) (HW.out.below hbw) ls lw hdb4 ⟨hbl, hbx⟩ ?_
      intro u24 u25 u26 u27 u28 u29 u30 u31 u32 u33 u34 u35 u36 u37 u38 u39 u40 u41 u42 u43 w5 hb5
      have hx5 := (hb5.block _ (lt_of_heap hx4)).trans hx4
      have hown5 := own_below hown4 hb5
      have hbw5 := below_next hbw hb5
      have hdb5 : db < w5.heap.size ∧ ∀ j, w5.cell? ⟨db, j, none⟩ = (#[.slice ps d.seats.length cs, .slice pw d.waits.length cw] : Array Value)[j]? := ⟨Nat.lt_of_lt_of_le hdb4.1 hb5.size, fun j => (hb5.cell (p := ⟨db, j, none⟩) hdb4.1).trans (hdb4.2 j)⟩
      have hrb5 : rb < w5.heap.size ∧ ∀ j, w5.cell? ⟨rb, j, none⟩ = (#[.int .i64 r.server, .int .i64 r.seq, .bool r.cancel, .int .i64 r.student, .int .i64 r.term, .string r.code, .string r.give, .int .i64 r.priority, .int .i64 r.day] : Array Value)[j]? := ⟨Nat.lt_of_lt_of_le hbl hb5.size, fun j => (hb5.cell (p := ⟨rb, j, none⟩) hbl).trans (hbx j)⟩
      clear hbx hbl hx4 hown4 hdb4 hb5 hbw
      go_upto_region 8 with fail
      refine nx_r8 db rb ps pw pa cs cw ca d r A _ w5 _ (HR.out.below hbw5) (HW.out.below hbw5) ls lw hdb5 hrb5 (HA.out.below hbw5) la ?_
      intro u44 u45 u46 u47 u48 u49 u50 u51 u52 u53 u54 u55 u56 u57 u58 u59 u60 u61 u62 u63 u64 u65 u66 u67 u68 u69 w6 hb6
      have hx6 := (hb6.block _ (lt_of_heap hx5)).trans hx5
      have hown6 := own_below hown5 hb6
      have hbw6 := below_next hbw5 hb6
      have lx6 := lt_of_heap hx6
      clear hx5 hown5 hdb5 hrb5 hb6 hbw5
      have HCB : Hid ((!decide (r.give.size = 0) && !decide (r.give = r.code) && decide (giveOf r ∈ d.seats) && decide (seatOf r ∈ d.waits) && !decide (seatOf r ∈ d.seats) && decide (r ∈ A)) = canB A d r) := Lib.hid rfl
      generalize hcb : (!decide (r.give.size = 0) && !decide (r.give = r.code) && decide (giveOf r ∈ d.seats) && decide (seatOf r ∈ d.waits) && !decide (seatOf r ∈ d.seats) && decide (r ∈ A)) = cb at HCB ⊢
      clear hcb
      cases cb
      · have HN : Hid (C = canTo A d l (k + 1)) := Lib.hid (by rw [HTK.out, ← HCB.out, ← HI.out]; simp)
        go_wp2_with fail
        go_roundw
        case rel => exact ⟨k + 1, C, pc, cc, by omega, by go_num, HN, hx6, hown6, hbw6⟩
        case measure => simp [RowKit.intOf]; omega
      · have HN : Hid (C ++ [k] = canTo A d l (k + 1)) := Lib.hid (by rw [HTK.out, ← HCB.out, ← HI.out]; simp)
        have hc1 : ∀ j, w6.cell? ⟨W0.heap.size, j, none⟩ = (#[.slice (some ⟨g, of, none⟩) l.length cl, .slice pc C.length cc, .slice ps d.seats.length cs, .slice pw d.waits.length cw] : Array Value)[j]? := fun j => Lib.cell_of_heap hx6 j
        have hown9 := hown6.alloc (.cells #[.int .i64 k] 3)
        have hlit := rowIn_lit (enc := encN) (e := 3) w6 [k] #[.int .i64 k] w6.heap.size rfl rfl 1 rfl
        have hb9 : RowKit.Below w6.heap.size w6 (w6.alloc (.cells #[.int .i64 k] 3)) := below_alloc1 _ _
        have hx9 := (hb9.block _ lx6).trans hx6
        have hlow : W0.heap.size + 1 ≤ (w6.alloc (.cells #[.int .i64 k] 3)).heap.size := by simp; omega
        go_wp2_with (at_builtin; refine wpList_append_row natT rfl (.tmp 75) (.tmp 77) rfl (W0.heap.size + 1) _ _ C [k] rfl rfl hown9 hlit (by simp; omega) hlow ?_; intro v9 w9 hA9; obtain ⟨p9, c9, rfl⟩ := own_form hA9.own; have hxA := (hA9.grown.block W0.heap.size (lt_of_heap hx9) (fun e => by have := (own_lo hown9 e.symm).1; omega)).trans hx9; have hfz := Lib.frozen_of_heap hxA 1; have hcA : w9.cell? ⟨W0.heap.size, 1, none⟩ = some (.slice pc C.length cc) := Lib.cell_of_heap hxA 1)
        have hbF := (below_next hbw6 hb9).grown hA9.grown (below_next hbw6 hb9).size (fun q hq => by have := (own_lo hown9 hq).1; omega)
        have hoF := own_set hA9.own (b := W0.heap.size) (by omega) 1 (.slice p9 (C ++ [k]).length c9)
        have hxF := ex_set hxA (.slice p9 (C ++ [k]).length c9)
        simp only [List.length_append, List.length_singleton] at hoF hxF
        go_roundw
        case rel => exact ⟨k + 1, C ++ [k], p9, c9, by omega, by go_num, HN, by simpa using hxF, by simpa using hoF, by simpa using hbF.setCell (p := ⟨W0.heap.size, 1, none⟩) (Nat.le_refl _) _⟩
        case measure => simp [RowKit.intOf]; omega
    · obtain rfl : k = l.length := by omega
      have e := HI.out
      subst e
      go_wp2_with fail
      exact HQ.out _ _ _ _ _ _ _ _ _ _ _ _ _ _ _ _ _ _ _ _ _ _ _ _ _ _ _ _ _ _ _ _ _ _ _ _ _ _ _ _ _ _ _ _ _ _ _ _ _ _ _ _ _ _ _ _ _ _ _ _ _ _ _ _ _ _ pc cc _ hx hown hbr

/-- What newExchange leaves. -/
def NewPost (l : List Req) (d : Deal) (w : World) (e : Ending) (w' : World) : Prop := ∃ b, e = .returned (.pointer (some ⟨b, 0, none⟩)) ∧ ExIn w' b l (canP (actS l) d l) d ∧ RowKit.Below w.heap.size w w'
set_option maxHeartbeats 4000000 in
set_option maxRecDepth 100000 in
theorem newEx_any (lv dv : Value) (l : List Req) (d : Deal) (w : World) (hl : ReqsIn w lv l) (ll : l.length ≤ 1000000) (hf : ∀ r ∈ l, r.fits) (hd : DealIn w dv d) :
    Calls Tryz.prog 22 #[lv, dv] w (NewPost l d w) := by
  obtain ⟨⟨ps, cs, pw, cw, rfl, hs, hw⟩, ls, lw⟩ := hd
  have hL := hl.row
  obtain ⟨pl, cl, rfl, _⟩ := hL.form
  have hb0 := below_alloc1 w (.cells #[.slice ps d.seats.length cs, .slice pw d.waits.length cw] 31)
  have hx0 := heap_alloc_new w (.cells #[.slice ps d.seats.length cs, .slice pw d.waits.length cw] 31)
  have HL := Lib.hid hL
  have HR := Lib.hid hl
  have HS := Lib.hid hs
  have HW := Lib.hid hw
  clear hL hl hs hw
  go_enter Tryz.func22, Tryz.ntmps22
  go_wp2_with fail
  generalize w.alloc _ = W at hb0 hx0 ⊢
  refine (active_any _ l W (HR.out.below hb0) ll hf).mono ?_
  rintro _ w1 ⟨av, M, rfl, hM, hav, hb1⟩
  have hb2 := below_next hb0 hb1
  have hx1 := (hb1.block _ (lt_of_heap hx0)).trans hx0
  have hrow := (reqsIn_own hav).row
  have lA : (actR M).length ≤ 1000000 := by have := actR_len_le hM; omega
  have HE := Lib.hid (actS_eq hM)
  clear hb0 hx0 hb1 hav hM
  generalize actR M = A at hrow lA HE
  obtain ⟨pa, ca, rfl, _⟩ := hrow.form
  have hd1 : w.heap.size < w1.heap.size ∧ ∀ j, w1.cell? ⟨w.heap.size, j, none⟩ = (#[.slice ps d.seats.length cs, .slice pw d.waits.length cw] : Array Value)[j]? := ⟨lt_of_heap hx1, fun j => Lib.cell_of_heap hx1 j⟩
  have hd2 := hd1.2
  have hb3 := below_alloc1 w1 (.cells #[.slice pl l.length cl, .slice none 0 0, .slice ps d.seats.length cs, .slice pw d.waits.length cw] 85)
  have hx3 := heap_alloc_new w1 (.cells #[.slice pl l.length cl, .slice none 0 0, .slice ps d.seats.length cs, .slice pw d.waits.length cw] 85)
  go_upto_block 0 with fail
  generalize w1.alloc _ = W1 at hb3 hx3 ⊢
  refine nx_b0 w1 w.heap.size w1.heap.size pl ps pw pa cl cs cw ca d l A W1 _ rfl hb3 hx3 (HL.out.below hb2) hrow (HS.out.below hb2) (HW.out.below hb2) ll lA ls lw hd1 ?_
  intro u8 u9 u10 u19 u20 u21 u22 u23 u24 u25 u26 u27 u28 u29 u30 u31 u32 u33 u34 u35 u36 u37 u38 u39 u40 u41 u42 u43 u44 u45 u46 u47 u48 u49 u50 u51 u52 u53 u54 u55 u56 u57 u58 u59 u60 u61 u62 u63 u64 u65 u66 u67 u68 u69 u70 u71 u72 u73 u74 u75 u76 u77 u78 u79 u80 u81 pc cc w4 hx4 hown4 hb4
  have hb5 := below_next hb2 hb4
  have lc : (canP A d l).length ≤ 1000000 := by have := canTo_len A d l l.length; unfold canP; omega
  have hex : ExIn w4 w1.heap.size l (canP A d l) d := ⟨⟨pl, cl, pc, cc, ps, cs, pw, cw, hx4, HL.out.below hb5, rowIn_own (k := 1) (fun _ => rfl) (by decide) hown4, HS.out.below hb5, HW.out.below hb5⟩, ll, ls, lw, lc, fun n hn => (mem_canP.1 hn).1⟩
  have HX := Lib.hid hex
  clear hex hx4 hown4 hx3 hrow hd1 hd2 hx1
  go_wp2_with fail
  go_ret
  exact ⟨_, rfl, by rw [HE.out]; exact HX.out, hb5⟩
end Go.Proofs.YtjcogpalmgcpbaaGreat
