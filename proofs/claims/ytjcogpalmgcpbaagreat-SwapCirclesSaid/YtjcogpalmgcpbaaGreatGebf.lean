/- The law SwapEnds: after Trade nothing can be traded. -/
import Derived.Test.YtjcogpalmgcpbaaGreatGeay
import Derived.Test.YtjcogpalmgcpbaaGreatGeau
import Derived.Test.YtjcogpalmgcpbaaGreatGebe
import Derived.Test.YtjcogpalmgcpbaaGreatGear
import Derived.Test.YtjcogpalmgcpbaaGreatGeav
import Derived.Test.YtjcogpalmgcpbaaGreatGeaa
import Derived.Deep.DeepCutAuto
/- quadriviumlaw29.Case.made: a catalog, who has met what, the most credits, requests, and the deal for them. -/
namespace Go.Proofs.YtjcogpalmgcpbaaGreat
open Go Go.Proofs Go.RowKit Go.Maps Go.Sort Go.Lib
attribute [local go_sem] Req.cells

def mnT (x y : Int) : Int := if y < x then y else x
theorem run_min_T {P : Program} (w : World) (ts : Array TypeId) (t : TypeId) (k k' : IntKind) (x y : Int) : (Builtin.min_ ts t #[.int k x, .int k' y]).run P w = .ok (.int k (mnT x y)) w := run_min_int2 w ts t k k' x y
attribute [local go_sem ↓] run_min_T
/-- What 'made' leaves. -/
structure SwCase (w' : World) (ov mv lv dv : Value) (L : List Off) (M : List Seat) (most : Int) (R : List Req) (d : Deal) : Prop where
  made : Made28 w' ov mv lv L M R
  deal : DealIn w' dv d
  ok : OkS L M most d.seats
  nd : d.seats.Nodup
  wf : ∀ x ∈ d.seats, x.wf
  ls : d.seats.length ≤ 10
  lw : d.waits.length ≤ 10
theorem SwCase.below {w w' : World} {ov mv lv dv : Value} {L : List Off} {M : List Seat} {most : Int} {R : List Req} {d : Deal} (h : SwCase w ov mv lv dv L M most R d) (hb : RowKit.Below w.heap.size w w') : SwCase w' ov mv lv dv L M most R d :=
  ⟨h.made.below hb, h.deal.below hb, h.ok, h.nd, h.wf, h.ls, h.lw⟩
def SwCasePost (w : World) (x : Ending) (w' : World) : Prop := ∃ ov mv lv dv L M most R d, x = .returned (.tuple #[ov, mv, .int .i64 most, lv, dv]) ∧ SwCase w' ov mv lv dv L M most R d ∧ RowKit.Below w.heap.size w w'
theorem IntssIn.first {B : Nat} {S : Option Addr} {N K : Nat} {w : World} (h : IntssIn B S N w) (hK : K ≤ N) : IntssIn B S K w := ⟨by have := h.1; omega, fun j hj => h.2 j (by omega)⟩
theorem results_5 {fn : Func} {p t u v x : Tmp} {ty : TypeId} (h : fn.results = #[.tmp t, .tmp u, .tmp v, .tmp x, .cell p ty]) (tmps : Array Value) (P : Program) (w : World) :
    (results fn tmps).run P w = ((asAddr (tmps.getD p undef)).run P w).andThen fun a w₁ => ((loadVar ty a).run P w₁).andThen fun y w₂ => .ok (.tuple #[tmps.getD t undef, tmps.getD u undef, tmps.getD v undef, tmps.getD x undef, y]) w₂ := by
  simp only [results, h]
  simp [Sem.run_bind, Result.andThen]
theorem deal_results5 {fn : Func} {p t u v x : Tmp} (h : fn.results = #[.tmp t, .tmp u, .tmp v, .tmp x, .cell p 31]) (tmps : Array Value) (w : World) (g : Nat) (cs : Array Value) (hs : cs.size = 2) (hp : tmps.getD p undef = .pointer (some ⟨g, 0, none⟩)) (hg : w.heap[g]? = some (.cells cs 31 (0, 0))) :
    (results fn tmps).run Tryz.prog w = .ok (.tuple #[tmps.getD t undef, tmps.getD u undef, tmps.getD v undef, tmps.getD x undef, .agg cs]) w := by
  rw [results_5 h, hp]
  have hz : (Tryz.prog.info? 31).map (·.size) = some 2 := by kernel_rfl
  have := run_loadVar_row (P := Tryz.prog) w g 31 31 cs (0, 0) _ hg Tryz.underlying31 rfl (by rw [hz, hs])
  simp only [asAddr, Sem.run_pure, Result.andThen_ok, this]
theorem ord_mem {A R : List Req} (h : IsSet A R) {r : Req} (hr : r ∈ ordP (actR A) (actR A).length) : r ∈ R := (h.2 r).1 (mk_act_mem ((ordP_ok (actR A)).1.mem_iff.1 hr)).1
/-- A block without numbers and texts is none of the rows'. -/
def LitV (u : Value) : Prop := (∃ n, u = .int .i64 n) ∨ ∃ s, u = .string s
def NoLit (w : World) (b : Nat) : Prop := ∀ i u, w.cell? ⟨b, i, none⟩ = some u → ¬ LitV u
section
variable {w w' : World} {b : Nat}
theorem NoLit.deal {p q : Option Addr} {n m c e : Nat} {t : TypeId} (h : w.heap[b]? = some (.cells #[.slice p n c, .slice q m e] t (0, 0))) : NoLit w b := fun i u hu => by
  rw [Lib.cell_of_heap h] at hu
  match i, hu with
  | 0, hu => simp at hu; subst hu; simp [LitV]
  | 1, hu => simp at hu; subst hu; simp [LitV]
  | i + 2, hu => simp at hu
theorem NoLit.int (h : NoLit w b) : NoInt w b := fun i n e => h i _ e (.inl ⟨n, rfl⟩)
theorem RowIn.grownLit {α : Type} {enc : α → List Value} {v : Value} {L : List α} (hen : ∀ x, ∃ u r, enc x = u :: r ∧ LitV u) (h : RowIn enc w v L) (hg : w.grownBy w' (some b)) (hne : NoLit w b) : RowIn enc w' v L := by
  obtain ⟨p, c, rfl, hc, hz, hr⟩ := h
  refine ⟨p, c, rfl, hc, hz, fun hl => ?_⟩
  obtain ⟨g, o, rfl, hb, hx⟩ := hr hl
  have hd : some g ≠ some b := fun e => by
    obtain rfl := Option.some.inj e
    obtain ⟨x, L', rfl⟩ := List.exists_cons_of_ne_nil (List.ne_nil_of_length_pos hl)
    obtain ⟨u, r, hu, hlit⟩ := hen x
    exact hne (o + 0) u (hx 0 u (by simp [flatE, hu])) hlit
  exact ⟨g, o, rfl, Nat.lt_of_lt_of_le hb hg.size, fun j u hj => hg.cell (hx j u hj) hd⟩
theorem ReqsIn.grownLit {v : Value} {L : List Req} (h : ReqsIn w v L) (hg : w.grownBy w' (some b)) (hne : NoLit w b) : ReqsIn w' v L := by
  rcases h with h | ⟨g, o, c, rfl, h2, h3, h4⟩
  · exact .inl h
  · refine .inr ⟨g, o, c, rfl, h2, Nat.lt_of_lt_of_le h3 hg.size, fun j u hj => hg.cell (h4 j u hj) fun e => ?_⟩
    obtain rfl := Option.some.inj e
    match L, hj with
    | [], hj => simp [reqCells] at hj
    | x :: L, _ => exact hne (o + 0) _ (h4 0 _ rfl) (.inl ⟨_, rfl⟩)
theorem Made28.grownLit {ov mv lv : Value} {L : List Off} {M : List Seat} {R : List Req} (h : Made28 w ov mv lv L M R) (hg : w.grownBy w' (some b)) (hne : NoLit w b) : Made28 w' ov mv lv L M R where
  cat := ⟨h.cat.off.grownLit (fun _x => ⟨_, _, rfl, .inr ⟨_, rfl⟩⟩) hg hne, fun o ho => ⟨⟨(h.cat.ok o ho).1.1.grownLit (fun _x => ⟨_, _, rfl, .inl ⟨_, rfl⟩⟩) hg hne, (h.cat.ok o ho).1.2.grownLit (fun _x => ⟨_, _, rfl, .inr ⟨_, rfl⟩⟩) hg hne⟩, (h.cat.ok o ho).2⟩, h.cat.code, h.cat.met.grownLit (fun _x => ⟨_, _, rfl, .inl ⟨_, rfl⟩⟩) hg hne, h.cat.wf, h.cat.lo, h.cat.lm⟩
  few o ho := ⟨⟨(h.few o ho).1.1.grownLit (fun _x => ⟨_, _, rfl, .inl ⟨_, rfl⟩⟩) hg hne, (h.few o ho).1.2.grownLit (fun _x => ⟨_, _, rfl, .inr ⟨_, rfl⟩⟩) hg hne⟩, (h.few o ho).2⟩
  calm := h.calm
  req := h.req.grownLit hg hne
  lr := h.lr
  small := h.small
end
set_option maxHeartbeats 8000000 in
set_option maxRecDepth 100000 in
theorem sw_case_any (A0 A1 A2 : Option Addr) (n0 n1 n2 c0 c1 c2 : Nat) (m : Int) (w : World) (h0 : IntsIn w.heap.size A0 n0 w) (h1 : IntsIn w.heap.size A1 n1 w) (h2 : IntssIn w.heap.size A2 n2 w) (hc : n2 ≤ c2) (hm0 : 0 ≤ m) (hm1 : m ≤ 255) :
    Calls Tryz.prog 7 #[.agg #[.slice A0 n0 c0, .slice A1 n1 c1, .slice A2 n2 c2, .int .u8 m]] w (SwCasePost w) := by
  have hbb := (below_alloc1 w (.cells #[.slice A0 n0 c0, .slice A1 n1 c1, .slice A2 n2 c2, .int .u8 m] 25)).alloc (by simp) (.cells #[.slice none 0 0, .slice none 0 0] 31)
  have hx1 : ((w.alloc (.cells #[.slice A0 n0 c0, .slice A1 n1 c1, .slice A2 n2 c2, .int .u8 m] 25)).alloc (.cells #[.slice none 0 0, .slice none 0 0] 31)).heap[w.heap.size]? = some (.cells #[.slice A0 n0 c0, .slice A1 n1 c1, .slice A2 n2 c2, .int .u8 m] 25 (0, 0)) := by rw [(below_alloc1 _ _).block _ (by simp)]; exact heap_alloc_new w _
  have hx6 := new_two w (.cells #[.slice A0 n0 c0, .slice A1 n1 c1, .slice A2 n2 c2, .int .u8 m] 25) (.cells #[.slice none 0 0, .slice none 0 0] 31)
  have H0 := Lib.hid h0
  have H1 := Lib.hid h1
  have H2 := Lib.hid h2
  clear h0 h1 h2
  go_enter Tryz.func7, Tryz.ntmps7
  go_wp2_with fail
  generalize World.alloc _ _ = W at hbb hx1 hx6 ⊢
  have l1 := lt_of_heap hx1
  have keepS : ∀ w', RowKit.Below W.heap.size W w' → RowKit.Below W.heap.size W w' ∧ (∀ j, w'.cell? ⟨w.heap.size, j, none⟩ = (#[.slice A0 n0 c0, .slice A1 n1 c1, .slice A2 n2 c2, .int .u8 m] : Array Value)[j]?) := fun w' hb => ⟨hb, fun j => (hb.cell (p := ⟨w.heap.size, j, none⟩) l1).trans (Lib.cell_of_heap hx1 j)⟩
  have hS0 := keepS _ (Below.refl W.heap.size W).drew
  obtain ⟨m1, hm1', hmn, hm10⟩ : ∃ m1 : Nat, mnT (n2 : Int) 10 = m1 ∧ m1 ≤ n2 ∧ m1 ≤ 10 := by
    by_cases h : 10 < n2
    · exact ⟨10, by unfold mnT; rw [if_pos (by omega)]; rfl, by omega, by omega⟩
    · exact ⟨n2, by unfold mnT; rw [if_neg (by omega)], by omega, by omega⟩
  have hmc : (m1 : Int) ≤ (c2 : Int) := by omega
  have HMN := Lib.hid hmn
  have hm2 : IntKind.i64.wrap m = m := IntWalk.i64_in _ (by omega)
  go_region_held3 (fun w' => RowKit.Below W.heap.size W w' ∧ (∀ j, w'.cell? ⟨w.heap.size, j, none⟩ = (#[.slice A0 n0 c0, .slice A1 n1 c1, .slice A2 n2 c2, .int .u8 m] : Array Value)[j]?)) (first | exact hS0 | assumption)
    (first
    | (go_at_call 17; refine (refMade_any A0 A1 A2 n0 n1 m1 c0 c1 c2 _ (ints_at H0.out (below_next hbb (Below.refl _ _).drew)) (ints_at H1.out (below_next hbb (Below.refl _ _).drew)) ((intss_at H2.out (below_next hbb (Below.refl _ _).drew)).first HMN.out)).mono ?_; rintro _ w1 ⟨ov, mv, lv, L, M, R, rfl, hmade, hb1⟩; have hS1 := keepS w1 (below_next (Below.refl _ _).drew hb1)))
  have HMd := Lib.hid hmade
  have hB1 : RowKit.Below W.heap.size W w1 := hS1.1
  have hb5 : ∀ j, w1.cell? ⟨w.heap.size, j, none⟩ = (#[.slice A0 n0 c0, .slice A1 n1 c1, .slice A2 n2 c2, .int .u8 m] : Array Value)[j]? := hS1.2
  have hm40 : 0 ≤ m.tmod 40 ∧ m.tmod 40 ≤ 39 := by
    have : m.tmod 40 = m % 40 := Int.tmod_eq_emod_of_nonneg hm0
    omega
  have hm3 : IntKind.i64.wrap (10 + m.tmod 40) = 10 + m.tmod 40 := i64_id (by omega) (by omega)
  have hx6b := (hB1.block _ (lt_of_heap hx6)).trans hx6
  clear hmade hS0 hb1 keepS hmc hm1'
  go_upto_region 3 with fail
  generalize hmost : 10 + m % 40 = most
  clear hm3 hmost hb5 hS1
  go_wp2_with fail
  refine (refDeal_any ov mv lv L M most R w1 HMd.out.cat.off HMd.out.cat.lo HMd.out.few HMd.out.cat.met HMd.out.cat.lm HMd.out.req (by have := HMd.out.lr; omega) HMd.out.small).mono ?_
  rintro _ w2 ⟨dv, A, rfl, hA, hd, hb2⟩
  have hOl : (ordP (actR A) (actR A).length).length ≤ 10 := by
    rw [ordP_len]
    exact Nat.le_trans (Nat.le_trans (keepR_len _ _) (isSet_len hA)) HMd.out.lr
  have hok := deal_ok (met := M) (most := most) HMd.out.calm (ordP (actR A) (actR A).length) (by omega)
  have hnd := deal_nodup (L := L) (met := M) (most := most) (ordP (actR A) (actR A).length)
  have hln := deal_len (L := L) (met := M) (most := most) (ordP (actR A) (actR A).length)
  have hwf := deal_wf (L := L) (M := M) (most := most) (ordP (actR A) (actR A).length) fun r hr => by
    have h := (HMd.out.small r (ord_mem hA hr)).wf
    exact ⟨h.2.2.1, h.2.2.2.2.1⟩
  have hx62 := (hb2.block _ (lt_of_heap hx6b)).trans hx6b
  generalize dealP L M most _ = D at hd hok hnd hln hwf
  obtain ⟨⟨pd, cd, qd, ed, rfl, hds, hdw⟩, hls, hlw⟩ := hd
  have hdl : D.seats.length ≤ 10 := Nat.le_trans hln.1 hOl
  have hdl2 : D.waits.length ≤ 10 := Nat.le_trans hln.2 hOl
  have hfr : ∀ j, w2.frozen? ⟨w.heap.size + 1, j, none⟩ = false := fun j => Lib.frozen_of_heap hx62 j
  have hrc : ∀ j, w2.cell? ⟨w.heap.size + 1, j, none⟩ = (#[.slice none 0 0, .slice none 0 0] : Array Value)[j]? := fun j => Lib.cell_of_heap hx62 j
  have HD : Hid (DealIn w2 (.agg #[.slice pd D.seats.length cd, .slice qd D.waits.length ed]) D) := Lib.hid ⟨⟨pd, cd, qd, ed, rfl, hds, hdw⟩, hls, hlw⟩
  have HB2 := Lib.hid (below_next hbb (below_next hB1 hb2))
  have HM2 := Lib.hid (HMd.out.below hb2)
  have HX := Lib.hid (show SwCase w2 ov mv lv (.agg #[.slice pd D.seats.length cd, .slice qd D.waits.length ed]) L M most R D from ⟨HM2.out, HD.out, hok, hnd, hwf, hdl, hdl2⟩)
  clear hok hnd hwf hds hdw hb2 hB1 hbb hA hln hOl hx6b
  go_wp2_with fail
  have hg2 := grows_trans (Only.setCell w2 (w.heap.size + 1) 0 (.slice pd D.seats.length cd) 0) (Only.setCell _ (w.heap.size + 1) 1 (.slice qd D.waits.length ed) 0)
  have hnl := NoLit.deal hx62
  refine bodyPost_ret (deal_results5 Tryz.results7 _ _ (w.heap.size + 1) #[.slice pd D.seats.length cd, .slice qd D.waits.length ed] rfl rfl ?_) rfl
    ⟨_, _, _, _, L, M, most, R, D, rfl, ⟨HM2.out.grownLit hg2 hnl, HD.out.grown hg2 (fun q hq => by obtain rfl := Option.some.inj hq; exact hnl.int), HX.out.ok, HX.out.nd, HX.out.wf, hdl, hdl2⟩, HB2.out.grown hg2 HB2.out.size (fun q hq => by obtain rfl := Option.some.inj hq; omega)⟩
  simp [World.setCell, Array.getElem?_modify, hx62]
end Go.Proofs.YtjcogpalmgcpbaaGreat
/- quadriviumlaw29.count: how many seats a student, or a course, has. -/
namespace Go.Proofs.YtjcogpalmgcpbaaGreat
open Go Go.Proofs Go.RowKit Go.Maps Go.Sort Go.Lib
theorem cntF_snoc (l : List Seat) (x : Seat) (st : Int) (c : ByteArray) : cntF (l ++ [x]) st c = cntF l st c + if cntB st c x = true then 1 else 0 := by
  unfold cntF
  rw [List.countP_append, List.countP_singleton]
theorem cntF_le (l : List Seat) (st : Int) (c : ByteArray) : cntF l st c ≤ l.length := List.countP_le_length
set_option maxHeartbeats 4000000 in
set_option maxRecDepth 100000 in
theorem count_any (v : Value) (l : List Seat) (st : Int) (c : ByteArray) (w : World) (h : RowIn Seat.cells w v l) (hl : l.length ≤ 1000000) :
    Calls Tryz.prog 10 #[v, .int .i64 st, .string c] w fun e w' => e = .returned (.int .i64 (cntF l st c)) ∧ RowKit.Below w.heap.size w w' := by
  obtain ⟨q, cc, rfl, _⟩ := h.form
  have H := Lib.hid h
  clear h
  go_enter Tryz.func10, Tryz.ntmps10
  go_wp2_with fail
  go_loopw [7, 8] (fun m i wr => ∃ k : Nat, k ≤ l.length ∧ i = .int .i64 k ∧ m = .int .i64 (cntF (l.take k) st c) ∧ wr = w) (fun _ i _ => l.length - (RowKit.intOf i).toNat)
  case atStart => exact ⟨0, Nat.zero_le _, rfl, rfl, rfl⟩
  case round =>
    obtain ⟨k, hk, rfl, rfl, rfl⟩ := hrel
    have hcl : cntF (l.take k) st c ≤ k := Nat.le_trans (cntF_le _ _ _) (by simp; omega)
    by_cases hlt : k < l.length
    · obtain ⟨b, o, c', hv, _, hbl, hx⟩ := H.out.at_ (k := 2) (fun _ => rfl) (by omega)
      have e1 := (Value.slice.inj hv).1
      subst e1
      have hz := List.getElem?_eq_getElem hlt
      have hat := hx k _ hz
      generalize l[k] = x at hz hat
      have h0 : wr.cell? ⟨b, o + k * 2, none⟩ = some (.int .i64 x.student) := hat 0 _ rfl
      have h1 : wr.cell? ⟨b, o + k * 2 + 1, none⟩ = some (.string x.code) := hat 1 _ rfl
      have HZ : Hid (cntF (l.take (k + 1)) st c = cntF (l.take k) st c + if cntB st c x = true then 1 else 0) := Lib.hid (by rw [List.take_add_one, hz, Option.toList_some, cntF_snoc])
      generalize cntF (l.take k) st c = n at hcl HZ
      clear hv hx hz hat
      have step : ∀ b : Bool, cntB st c x = b → Hid (cntF (l.take (k + 1)) st c = n + if b = true then 1 else 0) := fun b hb => Lib.hid (by rw [HZ.out, hb])
      by_cases h31 : x.student = st
      · have t1 : (x.student == st) = true := by simpa using h31
        have HN := step true (by unfold cntB; rw [decide_eq_true h31]; rfl)
        clear h31 step
        go_wp2_with fail
        go_roundw
        case rel => exact ⟨k + 1, by omega, by go_num, by rw [HN.out]; go_num, trivial⟩
        case measure => simp [RowKit.intOf]; omega
      · have t1 : (x.student == st) = false := by simpa using h31
        by_cases h32 : c.size = 0
        · have t2 : c.toList.isEmpty = true := by have := give_test c; rw [decide_eq_true h32] at this; simpa using this
          have HN := step false (by unfold cntB; rw [decide_eq_false h31, decide_eq_true h32]; rfl)
          clear h31 step h32
          go_wp2_with fail
          go_roundw
          case rel => exact ⟨k + 1, by omega, by go_num, by rw [HN.out]; rfl, trivial⟩
          case measure => simp [RowKit.intOf]; omega
        · have t2 : c.toList.isEmpty = false := by have := give_test c; rw [decide_eq_false h32] at this; simpa using this
          by_cases h33 : x.code = c
          · have t3 : (x.code.toList == c.toList) = true := by rw [h33]; simp
            have HN := step true (by unfold cntB; rw [decide_eq_false h31, decide_eq_false h32, decide_eq_true h33]; rfl)
            clear h31 step h32 h33
            go_wp2_with fail
            go_roundw
            case rel => exact ⟨k + 1, by omega, by go_num, by rw [HN.out]; go_num, trivial⟩
            case measure => simp [RowKit.intOf]; omega
          · have t3 : (x.code.toList == c.toList) = false := by simp [req_ba, h33]
            have HN := step false (by unfold cntB; rw [decide_eq_false h31, decide_eq_false h32, decide_eq_false h33]; rfl)
            clear h31 step h32 h33
            go_wp2_with fail
            go_roundw
            case rel => exact ⟨k + 1, by omega, by go_num, by rw [HN.out]; rfl, trivial⟩
            case measure => simp [RowKit.intOf]; omega
    · obtain rfl : k = l.length := by omega
      go_wp2_with fail
      go_ret
      exact ⟨ret_int (by rw [List.take_length]), Below.refl _ _⟩
end Go.Proofs.YtjcogpalmgcpbaaGreat
namespace Go.Proofs.YtjcogpalmgcpbaaGreat
open Go Go.Proofs Go.RowKit Go.Maps Go.Sort Go.Lib
attribute [local go_sem] Req.cells

theorem reach_wf {L : List Off} {M : List Seat} {most : Int} {l : List Req} {d e : Deal} (h : Reach L M most l d e) (hr : ∀ r ∈ l, (seatOf r).wf) : (∀ x ∈ d.seats, x.wf) → ∀ x ∈ e.seats, x.wf := by
  induction h with
  | refl => exact id
  | step h _ ih => exact fun hd => ih (ring_wf (A := []) _ _ (fun r hr' => by
      obtain ⟨n, hn, rfl⟩ := List.mem_map.1 hr'
      exact hr _ (atR_mem (mem_canP.1 (isB_lt (circle_ok h).1 hn)).1)) hd)
theorem plain_circle {L : List Off} {M : List Seat} {most : Int} {l : List Req} {d : Deal} (h : ∀ r ∈ l, r.give.size = 0) : circleP L M most l d = none :=
  circle_none fun n hn _ _ => by
    have := mem_canP.1 hn
    exact absurd (h _ (atR_mem this.1)) this.2.give
/-- A request that gives nothing. -/
def noGive (r : Req) : Req := { r with give := ⟨#[]⟩ }

set_option maxHeartbeats 4000000 in
set_option maxRecDepth 100000 in
theorem en_r12 {s0 s1 s2 s13 s14 s15 s16 s17 s18 s19 s20 s21 s22 s23 s24 s25 s26 s27 s28 s29 s30 s31 s32 s33 s34 s35 s36 s37 s38 s39 s40 s41 s42 s43 s44 s45 s46 s47 s48 s49 s50 s51 s52 s53 s54 s55 s56 s57 s58 s59 s60 s61 s62 s63 s64 s65 s66 s67 s68 s69 s70 s71 s72 s73 s74 s75 s76 s77 s78 s79 s80 s81 s82 s83 : Value} (b8 b9 : Nat) (ov mv lv pv s8v w8v s9v w9v : Value) (most : Int) (L : List Off) (M : List Seat) (l l2 : List Req) (d T : Deal) (W : World) (Q : Exit → Act → World → Prop) (h8 : W.heap[b8]? = some (.cells #[s8v, w8v] 31 (0, 0))) (h9 : W.heap[b9]? = some (.cells #[s9v, w9v] 31 (0, 0))) (hC : CatIn W ov mv L M) (hl : ReqsIn W lv l) (hp : ReqsIn W pv l2) (ll : l.length ≤ 200) (ll2 : l2.length ≤ 200) (hf : ∀ r ∈ l, r.fits) (hf2 : ∀ r ∈ l2, r.fits) (hd : DealIn W (.agg #[s8v, w8v]) d) (hwf : ∀ x ∈ d.seats, x.wf) (hd9 : DealIn W (.agg #[s9v, w9v]) T) (hwf9 : ∀ x ∈ T.seats, x.wf) (hT : ∀ T', Reach L M most l T T' → circleP L M most l T' = none → T' = T) (hT2 : ∀ T', Reach L M most l2 d T' → circleP L M most l2 T' = none → T' = d)
    (hQ : ∀ (u54 u55 u56 u57 u58 u59 u60 u61 u62 u63 u64 u65 u66 u67 u68 u69 u70 u71 u72 u73 u74 u75 u76 u77 u78 u79 u80 u81 u82 u83 : Value) (wx : World), RowKit.Below W.heap.size W wx → Q .normal ⟨List.toArray (s0 :: s1 :: .bool true :: .bool true :: ov :: mv :: .int .i64 most :: lv :: .pointer (some ⟨b8, 0, none⟩) :: .pointer (some ⟨b9, 0, none⟩) :: .slice none 0 0 :: .bool false :: pv :: s13 :: s14 :: s15 :: s16 :: s17 :: s18 :: s19 :: s20 :: s21 :: s22 :: s23 :: s24 :: s25 :: s26 :: s27 :: s28 :: s29 :: s30 :: s31 :: s32 :: s33 :: s34 :: s35 :: s36 :: s37 :: s38 :: s39 :: s40 :: s41 :: s42 :: s43 :: s44 :: s45 :: s46 :: s47 :: s48 :: s49 :: s50 :: s51 :: s52 :: s53 :: u54 :: u55 :: u56 :: u57 :: u58 :: u59 :: u60 :: u61 :: u62 :: u63 :: u64 :: u65 :: u66 :: u67 :: u68 :: u69 :: u70 :: u71 :: u72 :: u73 :: u74 :: u75 :: u76 :: u77 :: u78 :: u79 :: u80 :: u81 :: u82 :: u83 :: []), []⟩ wx) :
    (regionOf Tryz.f4 12).wp Tryz.prog Q ⟨List.toArray (s0 :: s1 :: s2 :: .bool true :: ov :: mv :: .int .i64 most :: lv :: .pointer (some ⟨b8, 0, none⟩) :: .pointer (some ⟨b9, 0, none⟩) :: .slice none 0 0 :: .bool false :: pv :: s13 :: s14 :: s15 :: s16 :: s17 :: s18 :: s19 :: s20 :: s21 :: s22 :: s23 :: s24 :: s25 :: s26 :: s27 :: s28 :: s29 :: s30 :: s31 :: s32 :: s33 :: s34 :: s35 :: s36 :: s37 :: s38 :: s39 :: s40 :: s41 :: s42 :: s43 :: s44 :: s45 :: s46 :: s47 :: s48 :: s49 :: s50 :: s51 :: s52 :: s53 :: s54 :: s55 :: s56 :: s57 :: s58 :: s59 :: s60 :: s61 :: s62 :: s63 :: s64 :: s65 :: s66 :: s67 :: s68 :: s69 :: s70 :: s71 :: s72 :: s73 :: s74 :: s75 :: s76 :: s77 :: s78 :: s79 :: s80 :: s81 :: s82 :: s83 :: []), []⟩ W := by
  refine of_onlyN (K := Q .normal) ?_ (fun _ _ h => h)
  generalize Q .normal = K at hQ ⊢
  have HQ := Lib.hid hQ; clear hQ
  conv => arg 2; whnf
  have HC := Lib.hid hC
  have HL := Lib.hid hl
  have HP := Lib.hid hp
  have HF := Lib.hid hf
  have HF2 := Lib.hid hf2
  have HD := Lib.hid hd
  have HWF := Lib.hid hwf
  have HD9 := Lib.hid hd9
  have HWF9 := Lib.hid hwf9
  have HT := Lib.hid hT
  have HT2 := Lib.hid hT2
  clear hC hl hp hf hf2 hd hwf hd9 hwf9 hT hT2
  have hS0 : RowKit.Below W.heap.size W W.drew := (Below.refl _ _).drew
  refine of_onlyN ?_ (fun _ _ h => h)
  refine wp_region_flow (S := fun w' => RowKit.Below W.heap.size W w') [(0, true), (1, true), (2, true), (3, true), (4, true), (5, true), (6, true), (7, true), (8, true), (9, true), (10, true), (11, true), (12, true), (13, true), (14, true), (15, true), (17, true), (16, false), (18, false), (19, true), (20, true), (21, true), (22, true), (23, true), (24, true), (25, true), (27, true), (26, false), (28, false), (29, true), (30, true)] (by kernel_rfl) (by kernel_rfl) (by kernel_rfl) (by decide) (hS0) ?_
  have hS := hS0
  refine flow_take ⟨some 54, _, _, _, _, _⟩ ?_ rfl (by rfl) ?_ ?_
  rotate_left 1
  · intro w hSw; (try dsimp only at hSw); go_simp; (try with_reducible rfl)
  simp only [Act.put, List.setIfInBounds_toArray, List.set_cons_zero, List.set_cons_succ]
  refine flow_take ⟨some 55, _, _, _, _, _⟩ ?_ rfl (by rfl) ?_ ?_
  rotate_left 1
  · intro w hSw; (try dsimp only at hSw); go_simp; (try with_reducible rfl)
  simp only [Act.put, List.setIfInBounds_toArray, List.set_cons_zero, List.set_cons_succ]
  refine flow_take ⟨some 56, _, _, _, _, _⟩ ?_ rfl (by rfl) ?_ ?_
  rotate_left 1
  · intro w hSw; (try dsimp only at hSw); go_simp; (try with_reducible rfl)
  simp only [Act.put, List.setIfInBounds_toArray, List.set_cons_zero, List.set_cons_succ]
  refine flow_take ⟨some 57, _, _, _, _, _⟩ ?_ rfl (by rfl) ?_ ?_
  rotate_left 1
  · intro w hSw; (try dsimp only at hSw); go_simp; (try with_reducible rfl)
  simp only [Act.put, List.setIfInBounds_toArray, List.set_cons_zero, List.set_cons_succ]
  refine flow_take ⟨some 58, _, _, _, _, _⟩ ?_ rfl (by rfl) ?_ ?_
  rotate_left 1
  · intro w hSw; (try dsimp only at hSw); go_simp; (try with_reducible rfl)
  simp only [Act.put, List.setIfInBounds_toArray, List.set_cons_zero, List.set_cons_succ]
  refine flow_take ⟨some 59, _, _, _, _, _⟩ ?_ rfl (by rfl) ?_ ?_
  rotate_left 1
  · intro w hSw; (try dsimp only at hSw); go_simp; (try with_reducible rfl)
  simp only [Act.put, List.setIfInBounds_toArray, List.set_cons_zero, List.set_cons_succ]
  refine flow_take ⟨some 60, _, _, _, _, _⟩ ?_ rfl (by rfl) ?_ ?_
  rotate_left 1
  · intro w hSw; (try dsimp only at hSw); go_simp; (try with_reducible rfl)
  simp only [Act.put, List.setIfInBounds_toArray, List.set_cons_zero, List.set_cons_succ]
  refine flow_take ⟨some 61, _, _, _, _, _⟩ ?_ rfl (by rfl) ?_ ?_
  rotate_left 1
  · intro w hSw; (try dsimp only at hSw); go_simp; (try with_reducible rfl)
  simp only [Act.put, List.setIfInBounds_toArray, List.set_cons_zero, List.set_cons_succ]
  refine flow_take ⟨some 62, _, _, _, _, _⟩ ?_ rfl (by rfl) ?_ ?_
  rotate_left 1
  · intro w hSw; (try dsimp only at hSw); go_simp; (try with_reducible rfl)
  simp only [Act.put, List.setIfInBounds_toArray, List.set_cons_zero, List.set_cons_succ]
  refine flow_take ⟨some 63, _, _, _, _, _⟩ ?_ rfl (by rfl) ?_ ?_
  rotate_left 1
  · intro w hSw; (try dsimp only at hSw); go_simp; (try with_reducible rfl)
  simp only [Act.put, List.setIfInBounds_toArray, List.set_cons_zero, List.set_cons_succ]
  refine flow_take ⟨some 64, _, _, _, _, _⟩ ?_ rfl (by rfl) ?_ ?_
  rotate_left 1
  · intro w hSw; (try dsimp only at hSw); go_simp; (try with_reducible rfl)
  simp only [Act.put, List.setIfInBounds_toArray, List.set_cons_zero, List.set_cons_succ]
  refine flow_take ⟨some 65, _, _, _, _, _⟩ ?_ rfl (by rfl) ?_ ?_
  rotate_left 1
  · intro w hSw; (try dsimp only at hSw); go_simp; (try with_reducible rfl)
  simp only [Act.put, List.setIfInBounds_toArray, List.set_cons_zero, List.set_cons_succ]
  refine flow_take ⟨some 66, _, _, _, _, _⟩ ?_ rfl (by rfl) ?_ ?_
  rotate_left 1
  · intro w hSw; (try dsimp only at hSw); go_simp; (try with_reducible rfl)
  simp only [Act.put, List.setIfInBounds_toArray, List.set_cons_zero, List.set_cons_succ]
  refine flow_take ⟨some 67, _, _, _, _, _⟩ ?_ rfl (by rfl) ?_ ?_
  rotate_left 1
  · intro w hSw; (try dsimp only at hSw); go_simp; (try with_reducible rfl)
  simp only [Act.put, List.setIfInBounds_toArray, List.set_cons_zero, List.set_cons_succ]
  refine flow_take ⟨some 68, _, _, _, _, _⟩ ?_ rfl (by rfl) ?_ ?_
  rotate_left 1
  · intro w hSw; (try dsimp only at hSw); go_simp; (try with_reducible rfl)
  simp only [Act.put, List.setIfInBounds_toArray, List.set_cons_zero, List.set_cons_succ]
  refine sw_deal_at ⟨some 69, _, _, _, _, _⟩ _ _ b9 rfl (by rfl) (.tmp 9) (by rfl) (by rfl) (fun w hS => box_at h9 hS) ?_
  (try simp only [Act.put, List.setIfInBounds_toArray, List.set_cons_zero, List.set_cons_succ])
  refine sw_deal_at ⟨some 71, _, _, _, _, _⟩ _ _ b9 rfl (by rfl) (.tmp 9) (by rfl) (by rfl) (fun w hS => box_at h9 hS) ?_
  (try simp only [Act.put, List.setIfInBounds_toArray, List.set_cons_zero, List.set_cons_succ])
  (first | (refine flow_call ⟨some 70, _, _, _, _, _⟩ rfl (by rfl) 8 _ _ (by rfl) _ (by rfl) Tryz.call8 (trade_to (HC.out.below hS) (HL.out.below hS) ll HF.out (HD9.out.below hS) HWF9.out HT.out) ?_; rintro x wn ⟨v, rfl, hv, hb⟩; replace hS := below_next hS hb; refine ⟨_, rfl, hS, ?_⟩; (try clear hb)) | (refine flow_call ⟨some 70, _, _, _, _, _⟩ rfl (by rfl) 8 _ _ (by rfl) _ (by rfl) Tryz.call8 (trade_to (HC.out.below hS) (HP.out.below hS) ll2 HF2.out (HD.out.below hS) HWF.out HT2.out) ?_; rintro x wn ⟨v2, rfl, hv, hb⟩; replace hS := below_next hS hb; refine ⟨_, rfl, hS, ?_⟩; (try clear hb)))
  simp only [Act.put, List.setIfInBounds_toArray, List.set_cons_zero, List.set_cons_succ]
  (first | (refine flow_call ⟨some 72, _, _, _, _, _⟩ rfl (by rfl) 13 _ _ (by rfl) _ (by rfl) Tryz.call13 (sw_same hv (HD9.out.below hS)) ?_; rintro x wn ⟨rfl, hb⟩; replace hS := below_next hS hb; refine ⟨_, rfl, hS, ?_⟩; (try clear hb)) | (refine flow_call ⟨some 72, _, _, _, _, _⟩ rfl (by rfl) 13 _ _ (by rfl) _ (by rfl) Tryz.call13 (sw_same hv (HD.out.below hS)) ?_; rintro x wn ⟨rfl, hb⟩; replace hS := below_next hS hb; refine ⟨_, rfl, hS, ?_⟩; (try clear hb)))
  simp only [Act.put, List.setIfInBounds_toArray, List.set_cons_zero, List.set_cons_succ]
  refine flow_take ⟨some 73, _, _, _, _, _⟩ ?_ rfl (by rfl) ?_ ?_
  rotate_left 1
  · intro w hSw; (try dsimp only at hSw); go_simp; (try with_reducible rfl)
  simp only [Act.put, List.setIfInBounds_toArray, List.set_cons_zero, List.set_cons_succ]
  refine flow_take ⟨some 74, _, _, _, _, _⟩ ?_ rfl (by rfl) ?_ ?_
  rotate_left 1
  · intro w hSw; (try dsimp only at hSw); go_simp; (try with_reducible rfl)
  simp only [Act.put, List.setIfInBounds_toArray, List.set_cons_zero, List.set_cons_succ]
  refine flow_take ⟨some 75, _, _, _, _, _⟩ ?_ rfl (by rfl) ?_ ?_
  rotate_left 1
  · intro w hSw; (try dsimp only at hSw); go_simp; (try with_reducible rfl)
  simp only [Act.put, List.setIfInBounds_toArray, List.set_cons_zero, List.set_cons_succ]
  refine flow_take ⟨some 76, _, _, _, _, _⟩ ?_ rfl (by rfl) ?_ ?_
  rotate_left 1
  · intro w hSw; (try dsimp only at hSw); go_simp; (try with_reducible rfl)
  simp only [Act.put, List.setIfInBounds_toArray, List.set_cons_zero, List.set_cons_succ]
  refine flow_take ⟨some 77, _, _, _, _, _⟩ ?_ rfl (by rfl) ?_ ?_
  rotate_left 1
  · intro w hSw; (try dsimp only at hSw); go_simp; (try with_reducible rfl)
  simp only [Act.put, List.setIfInBounds_toArray, List.set_cons_zero, List.set_cons_succ]
  refine flow_take ⟨some 78, _, _, _, _, _⟩ ?_ rfl (by rfl) ?_ ?_
  rotate_left 1
  · intro w hSw; (try dsimp only at hSw); go_simp; (try with_reducible rfl)
  simp only [Act.put, List.setIfInBounds_toArray, List.set_cons_zero, List.set_cons_succ]
  refine sw_deal_at ⟨some 79, _, _, _, _, _⟩ _ _ b8 rfl (by rfl) (.tmp 8) (by rfl) (by rfl) (fun w hS => box_at h8 hS) ?_
  (try simp only [Act.put, List.setIfInBounds_toArray, List.set_cons_zero, List.set_cons_succ])
  refine sw_deal_at ⟨some 81, _, _, _, _, _⟩ _ _ b8 rfl (by rfl) (.tmp 8) (by rfl) (by rfl) (fun w hS => box_at h8 hS) ?_
  (try simp only [Act.put, List.setIfInBounds_toArray, List.set_cons_zero, List.set_cons_succ])
  (first | (refine flow_call ⟨some 80, _, _, _, _, _⟩ rfl (by rfl) 8 _ _ (by rfl) _ (by rfl) Tryz.call8 (trade_to (HC.out.below hS) (HL.out.below hS) ll HF.out (HD9.out.below hS) HWF9.out HT.out) ?_; rintro x wn ⟨v, rfl, hv, hb⟩; replace hS := below_next hS hb; refine ⟨_, rfl, hS, ?_⟩; (try clear hb)) | (refine flow_call ⟨some 80, _, _, _, _, _⟩ rfl (by rfl) 8 _ _ (by rfl) _ (by rfl) Tryz.call8 (trade_to (HC.out.below hS) (HP.out.below hS) ll2 HF2.out (HD.out.below hS) HWF.out HT2.out) ?_; rintro x wn ⟨v2, rfl, hv, hb⟩; replace hS := below_next hS hb; refine ⟨_, rfl, hS, ?_⟩; (try clear hb)))
  simp only [Act.put, List.setIfInBounds_toArray, List.set_cons_zero, List.set_cons_succ]
  (first | (refine flow_call ⟨some 82, _, _, _, _, _⟩ rfl (by rfl) 13 _ _ (by rfl) _ (by rfl) Tryz.call13 (sw_same hv (HD9.out.below hS)) ?_; rintro x wn ⟨rfl, hb⟩; replace hS := below_next hS hb; refine ⟨_, rfl, hS, ?_⟩; (try clear hb)) | (refine flow_call ⟨some 82, _, _, _, _, _⟩ rfl (by rfl) 13 _ _ (by rfl) _ (by rfl) Tryz.call13 (sw_same hv (HD.out.below hS)) ?_; rintro x wn ⟨rfl, hb⟩; replace hS := below_next hS hb; refine ⟨_, rfl, hS, ?_⟩; (try clear hb)))
  simp only [Act.put, List.setIfInBounds_toArray, List.set_cons_zero, List.set_cons_succ]
  refine flow_take ⟨some 83, _, _, _, _, _⟩ ?_ rfl (by rfl) ?_ ?_
  rotate_left 1
  · intro w hSw; (try dsimp only at hSw); go_simp; (try with_reducible rfl)
  simp only [Act.put, List.setIfInBounds_toArray, List.set_cons_zero, List.set_cons_succ]
  refine flow_take ⟨some 2, _, _, _, _, _⟩ ?_ rfl (by rfl) ?_ ?_
  rotate_left 1
  · intro w hSw; (try dsimp only at hSw); go_simp; (try with_reducible rfl)
  simp only [Act.put, List.setIfInBounds_toArray, List.set_cons_zero, List.set_cons_succ]
  simp only [wpFlow, OnlyN]
  exact HQ.out _ _ _ _ _ _ _ _ _ _ _ _ _ _ _ _ _ _ _ _ _ _ _ _ _ _ _ _ _ _ _ hS

set_option maxHeartbeats 8000000 in
set_option maxRecDepth 100000 in
theorem ends_law (A0 A1 A2 : Option Addr) (n0 n1 n2 c0 c1 c2 : Nat) (m : Int) (w : World) (h0 : IntsIn w.heap.size A0 n0 w) (h1 : IntsIn w.heap.size A1 n1 w) (h2 : IntssIn w.heap.size A2 n2 w) (hc : n2 ≤ c2) (hm0 : 0 ≤ m) (hm1 : m ≤ 255) :
    Calls Tryz.prog 4 #[.agg #[.slice A0 n0 c0, .slice A1 n1 c1, .slice A2 n2 c2, .int .u8 m]] w fun e w' => e = .returned (.bool true) ∧ RowKit.Below w.heap.size w w' := by
  have hb0 := below_alloc1 w (.cells #[.slice A0 n0 c0, .slice A1 n1 c1, .slice A2 n2 c2, .int .u8 m] 25)
  have hx0 := heap_alloc_new w (.cells #[.slice A0 n0 c0, .slice A1 n1 c1, .slice A2 n2 c2, .int .u8 m] 25)
  have H0 := Lib.hid h0
  have H1 := Lib.hid h1
  have H2 := Lib.hid h2
  clear h0 h1 h2
  go_enter Tryz.func4, Tryz.ntmps4
  go_wp2_with fail
  generalize w.alloc _ = W at hb0 hx0 ⊢
  refine (sw_sanity_any W).mono ?_
  rintro _ w1 ⟨rfl, hb1⟩
  have hx1 := (hb1.block _ (lt_of_heap hx0)).trans hx0
  have HB1 := Lib.hid (below_next hb0 hb1)
  have hcb : ∀ j, w1.cell? ⟨w.heap.size, j, none⟩ = (#[.slice A0 n0 c0, .slice A1 n1 c1, .slice A2 n2 c2, .int .u8 m] : Array Value)[j]? := fun j => Lib.cell_of_heap hx1 j
  clear hb0 hb1 hx0 hx1
  go_wp2_with fail
  refine (sw_case_any A0 A1 A2 n0 n1 n2 c0 c1 c2 m w1 (ints_at H0.out HB1.out) (ints_at H1.out HB1.out) (intss_at H2.out HB1.out) hc hm0 hm1).mono ?_
  rintro _ w2 ⟨ov, mv, lv, dv, L, M, most, l, d, rfl, hS, hb2⟩
  have HD0 := Lib.hid hS.deal
  obtain ⟨pd, cd, qd, ed, rfl, _, _⟩ := hS.deal.val
  have hb3 := below_alloc1 w2 (.cells #[.slice pd d.seats.length cd, .slice qd d.waits.length ed] 31)
  have hx8 := heap_alloc_new w2 (.cells #[.slice pd d.seats.length cd, .slice qd d.waits.length ed] 31)
  have HS3 := Lib.hid (hS.below hb3)
  have HB3 := Lib.hid (below_next (below_next HB1.out hb2) hb3)
  have hls : d.seats.length ≤ 10 := hS.ls
  have hlw : d.waits.length ≤ 10 := hS.lw
  have hll : l.length ≤ 10 := hS.made.lr
  have HFI : Hid (∀ r ∈ l, r.fits) := Lib.hid fun r hr => (hS.made.small r hr).fits
  have HRW : Hid (∀ r ∈ l, (seatOf r).wf) := Lib.hid fun r hr => by
    have h := (hS.made.small r hr).wf
    exact ⟨h.2.2.1, h.2.2.2.2.1⟩
  clear hS hb2 hb3 hcb H0 H1 H2 HB1 HD0 hc hm0 hm1
  go_upto_region 3 with fail
  obtain ⟨b8, hb8⟩ : ∃ b, w2.heap.size = b := ⟨_, rfl⟩
  rw [hb8] at hx8 ⊢
  generalize w2.alloc _ = w3 at HS3 HB3 hx8 ⊢
  clear hb8
  have hc8 : ∀ j, w3.cell? ⟨b8, j, none⟩ = (#[.slice pd d.seats.length cd, .slice qd d.waits.length ed] : Array Value)[j]? := fun j => Lib.cell_of_heap hx8 j
  go_wp2_with fail
  refine (trade_any ov mv lv L M most l d _ w3 HS3.out.made.cat HS3.out.made.req (by omega) HFI.out HS3.out.deal HS3.out.wf).mono ?_
  rintro _ w4 ⟨T, pt, ct, qt, et, rfl, hT, hre, hno, hb4⟩
  have HRE := Lib.hid hre
  have HNO := Lib.hid hno
  have hb5 := below_alloc1 w4 (.cells #[.slice pt T.seats.length ct, .slice qt T.waits.length et] 31)
  have hx9 := heap_alloc_new w4 (.cells #[.slice pt T.seats.length ct, .slice qt T.waits.length et] 31)
  have HT := Lib.hid (hT.below hb5)
  have hbb := below_next hb4 hb5
  have HS5 := Lib.hid (HS3.out.below hbb)
  have HB5 := Lib.hid (below_next HB3.out hbb)
  have hx85 := (hbb.block _ (lt_of_heap hx8)).trans hx8
  have HTW : Hid (∀ x ∈ T.seats, x.wf) := Lib.hid (reach_wf hre HRW.out HS3.out.wf)
  have HTL : Hid (T.seats.length = d.seats.length) := Lib.hid (reach_len hre)
  have htw : T.waits.length ≤ d.waits.length := reach_waits_len hre
  clear hre hno hb4 hb5 hT hbb hc8 HS3 HB3 hx8
  go_upto_region 4 with fail
  obtain ⟨b9, hb9⟩ : ∃ b, w4.heap.size = b := ⟨_, rfl⟩
  rw [hb9] at hx9 ⊢
  generalize w4.alloc _ = w5 at HT HS5 HB5 hx9 hx85 ⊢
  clear hb9
  have hc9 : ∀ j, w5.cell? ⟨b9, j, none⟩ = (#[.slice pt T.seats.length ct, .slice qt T.waits.length et] : Array Value)[j]? := fun j => Lib.cell_of_heap hx9 j
  go_wp2_with fail
  refine (circle_any ov mv lv L M most l T _ w5 HS5.out.made.cat HS5.out.made.req (by omega) HFI.out HT.out HTW.out).mono ?_
  rintro _ w6 ⟨hb6, ⟨_, rfl⟩ | ⟨c', pv, cv, h, _⟩⟩
  rotate_left 1
  · rw [HNO.out] at h; cases h
  have HS6 := Lib.hid (HS5.out.below hb6)
  have HT6 := Lib.hid (HT.out.below hb6)
  have HB6 := Lib.hid (below_next HB5.out hb6)
  have hx86 := (hb6.block _ (lt_of_heap hx85)).trans hx85
  have hx96 := (hb6.block _ (lt_of_heap hx9)).trans hx9
  obtain ⟨pl, cl, rfl, _⟩ := HS6.out.made.req.form
  clear hb6 hc9 HS5 HT HB5 hx85 hx9
  go_wp2_with fail
  go_loopw [12, 13] (fun v i wr => ∃ k : Nat, k ≤ l.length ∧ i = .int .i64 k ∧ wr.ownsRow w6.heap.size 41 9 v ((l.take k).map noGive).length (reqCells ((l.take k).map noGive)) ∧ RowKit.Below w6.heap.size w6 wr) (fun _ i _ => l.length - (RowKit.intOf i).toNat)
  case atStart => exact ⟨0, Nat.zero_le _, rfl, World.ownsRow_nil _ _ _ _, Below.refl _ _⟩
  case round =>
    obtain ⟨k, hk, rfl, hown, hbr⟩ := hrel
    by_cases hlt : k < l.length
    · obtain ⟨g, of, c', hv, _, hgl, hx⟩ := HS6.out.made.req.at_ (by omega)
      have e1 := (Value.slice.inj hv).1
      subst e1
      have hz := List.getElem?_eq_getElem hlt
      have hatk := (hx k _ hz).grown (below_grows hbr) (row := none) (by simp)
      have HTK : Hid ((l.take (k + 1)).map noGive = (l.take k).map noGive ++ [noGive l[k]]) := Lib.hid (by rw [take_one hz, List.map_append]; rfl)
      generalize l[k] = x at hz hatk HTK
      have hlk : ((l.take k).map noGive).length ≤ 10 := by simp; omega
      generalize (l.take k).map noGive = PL at hown HTK hlk
      clear hv hx hz
      have hbx := ReqBox.new wr x
      have hb1 := below_alloc1 wr (.cells x.cells 41)
      have hbr1 := below_next hbr hb1
      have hown1 := hown.alloc (.cells x.cells 41)
      have hlo : ∀ q, u12.ownBlock = some q → q < wr.heap.size := fun q hq => (hown.lt q hq).2
      have hsz := hbr.size
      simp only [Req.cells] at hb1 hbr1 hown1 hbx
      go_upto_region 10 with ((with_reducible refine wpList_load_mid (op := ⟨some 48, _, _, _, _, _⟩) ?_ 41 (.tmp 47) ?_ g (of + k * 9) ?_ (Req.cells x).toList _ ?_ Tryz.underlying41 ?_ ?_ ?_); rfl; rfl; rfl; exact hatk; rfl; kernel_rfl)
      clear hatk hb1 hown
      obtain ⟨b, hbe⟩ : ∃ b, wr.heap.size = b := ⟨_, rfl⟩
      rw [hbe] at hbx hlo hsz ⊢
      generalize wr.alloc _ = wa at hbx hbr1 hown1 ⊢
      clear hbe
      have hbc := hbx.cell
      have hbf := hbx.frozen
      have hb2 : ReqBox (wa.setCell ⟨b, 6, none⟩ (.string ⟨#[]⟩)) b (noGive x) := hbx.set 6 (.string ⟨#[]⟩) rfl
      have hg2 := Only.setCell wa b 6 (.string ⟨#[]⟩) 0
      have hown2 := hown1.kept hg2 (by
        cases hq : u12.ownBlock with
        | none => exact .inl rfl
        | some q => exact .inr (by have := hlo q hq; intro e; injection e with e; omega))
      have hbr2 : RowKit.Below w6.heap.size w6 (wa.setCell ⟨b, 6, none⟩ (.string ⟨#[]⟩)) := hbr1.grown hg2 hbr1.size (fun q hq => by injection hq with hq; omega)
      go_upto_region 11 with fail
      generalize World.setCell _ _ _ = wb at hb2 hown2 hbr2 ⊢
      clear hbc hbf hbx hbr1 hown1 hg2
      have hat := hb2.at_
      have hlen : PL.length + 1 ≤ 1000000 := by omega
      have hown5 := hown2.alloc (.cells (Req.cells (noGive x)) 41)
      have hsz5 : w6.heap.size ≤ (wb.alloc (.cells (Req.cells (noGive x)) 41)).heap.size := by have := hbr2.size; simp; omega
      have hone := reqs_one_at wb (noGive x) wb.heap.size rfl
      have hb5 := hbr2.alloc hbr2.size (.cells (Req.cells (noGive x)) 41)
      simp only [Req.cells] at hown5 hsz5 hone hb5
      go_wp2_with (first
        | ((with_reducible refine wpList_load_mid (op := ⟨some 51, _, _, _, _, _⟩) ?_ 41 (.tmp 14) ?_ b 0 ?_ (Req.cells (noGive x)).toList _ ?_ Tryz.underlying41 ?_ ?_ ?_); rfl; rfl; rfl; exact hat; rfl; kernel_rfl)
        | (at_builtin; go_must (refine wpList_append_reqs rfl (.tmp 50) (.tmp 52) rfl w6.heap.size u12 _ PL [noGive x] rfl rfl hown5 hone hlen hsz5 ?_); intro v' w7 hown' hg'))
      have hbF := hb5.grown hg' hb5.size (fun q hq => (hown5.lt q hq).1)
      clear hat hown5 hsz5 hone hg' hb5
      go_roundw
      case rel => exact ⟨k + 1, by omega, by go_num, by rw [HTK.out]; exact hown', hbF⟩
      case measure => simp [RowKit.intOf]; omega
    · obtain rfl : k = l.length := by omega
      rw [List.take_length] at hown
      have HPR := Lib.hid (reqsIn_own hown)
      have hbr' := hbr
      go_upto_region 12 with fail
      refine en_r12 b8 b9 ov mv (.slice pl l.length cl) u12 _ _ _ _ most L M l (l.map noGive) d T wr _ ((hbr.block _ (lt_of_heap hx86)).trans hx86) ((hbr.block _ (lt_of_heap hx96)).trans hx96) (HS6.out.made.cat.below hbr) (HS6.out.made.req.below hbr) HPR.out (by omega) (by simp; omega) HFI.out (fun r hr => ?_) (HS6.out.deal.below hbr) HS6.out.wf (HT6.out.below hbr) HTW.out (fun T' h _ => h.stop HNO.out) (fun T' h _ => h.stop (plain_circle fun r hr => ?_)) ?_
      · obtain ⟨x, hx, rfl⟩ := List.mem_map.1 hr
        exact (small_give (HS6.out.made.small x hx) (show ByteArray.size ⟨#[]⟩ ≤ 12 by decide)).fits
      · obtain ⟨x, hx, rfl⟩ := List.mem_map.1 hr
        rfl
      intros
      rename_i wx hwx
      go_wp2_with fail
      go_ret
      exact ⟨ret_bool rfl, below_next (below_next HB6.out hbr) hwx⟩
end Go.Proofs.YtjcogpalmgcpbaaGreat
