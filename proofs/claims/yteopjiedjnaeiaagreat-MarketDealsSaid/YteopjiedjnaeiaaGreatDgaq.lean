/- market.Check: whether a deal is permitted. -/
import Derived.Test.YteopjiedjnaeiaaGreatDgap
/- market.Deal, walked: what it deals out. -/
namespace Go.Proofs.YteopjiedjnaeiaaGreat
open Go Go.Proofs Go.RowKit Go.Maps Go.Sort Go.Lib
attribute [local go_sem] Seat.cells Req.cells

/-- A deal while it is made: its box, its rows. -/
structure DSt (w0 : World) (db : Nat) (d : Deal) (sv wv : Value) (w : World) : Prop where
  keep : w0.grownBy w (some db)
  box : w.heap[db]? = some (.cells #[sv, wv] 45 (0, 0))
  seats : w.ownsRow w0.heap.size 53 2 sv d.seats.length (flatE Seat.cells d.seats)
  waits : w.ownsRow w0.heap.size 53 2 wv d.waits.length (flatE Seat.cells d.waits)
  apart : sv.ownBlock = none ∨ sv.ownBlock ≠ wv.ownBlock
  low : db < w0.heap.size
variable {w0 w w' w'' : World} {db : Nat} {d : Deal} {sv wv v' ov : Value} {X : List Seat} {s : Seat}
theorem DSt.lt (h : DSt w0 db d sv wv w) : db < w.heap.size := (Array.getElem?_eq_some_iff.1 h.box).1
theorem DSt.size (h : DSt w0 db d sv wv w) : w0.heap.size ≤ w.heap.size := h.keep.size
theorem DSt.below (h : DSt w0 db d sv wv w) (hb : RowKit.Below w.heap.size w w') : DSt w0 db d sv wv w' :=
  ⟨grows_trans h.keep (below_grows hb), (hb.block db h.lt).trans h.box, h.seats.kept (row := none) (below_grows hb) (by cases sv.ownBlock <;> simp), h.waits.kept (row := none) (below_grows hb) (by cases wv.ownBlock <;> simp), h.apart, h.low⟩
theorem DSt.cell (h : DSt w0 db d sv wv w) (j : Nat) : w.cell? ⟨db, j, none⟩ = (#[sv, wv] : Array Value)[j]? := Lib.cell_of_heap h.box j
theorem DSt.frozen (h : DSt w0 db d sv wv w) (j : Nat) : w.frozen? ⟨db, j, none⟩ = false := Lib.frozen_of_heap h.box j
theorem grow_keep {w0 w w' : World} {db : Nat} {row : Option Nat} (h : w0.grownBy w (some db)) (hg : w.grownBy w' row) (hr : ∀ q, row = some q → w0.heap.size ≤ q) : w0.grownBy w' (some db) :=
  ⟨hg.1.trans h.1, hg.2.trans h.2, hg.3.trans h.3, Nat.le_trans h.size hg.size, fun i hi hne => (hg.block i (Nat.lt_of_lt_of_le hi h.size) (fun e => by have := hr i e.symm; omega)).trans (h.block i hi hne)⟩
theorem own_lo {w : World} {base k : Nat} {e : TypeId} {v : Value} {n : Nat} {xs : List Value} (h : w.ownsRow base e k v n xs) {q : Nat} (hq : v.ownBlock = some q) : base ≤ q ∧ q < w.heap.size := h.lt q hq
theorem own_form {w : World} {base k n : Nat} {e : TypeId} {v : Value} {xs : List Value} (h : w.ownsRow base e k v n xs) : ∃ p c, v = .slice p n c := by
  rcases h.2 with ⟨rfl, rfl⟩ | ⟨g, cap, _, rfl, _⟩
  · exact ⟨_, _, rfl⟩
  · exact ⟨_, _, rfl⟩
theorem own_set {w : World} {base k n : Nat} {e : TypeId} {v : Value} {xs : List Value} (h : w.ownsRow base e k v n xs) {b : Nat} (hb : b < base) (j : Nat) (u : Value) : (w.setCell ⟨b, j, none⟩ u).ownsRow base e k v n xs := by
  refine h.kept (row := some b) (Only.setCell w b j u 0) ?_
  cases hq : v.ownBlock with
  | none => exact .inl rfl
  | some q => exact .inr (by have := (own_lo h hq).1; intro e; injection e with e; omega)
theorem DSt.seat (h : DSt w0 db d sv wv w) (hb : RowKit.Below w.heap.size w w') (hA : AppT Seat.cells 2 53 w' w.heap.size ov X [s] v' w'') (ho : w'.ownsRow w.heap.size 53 2 ov X.length (flatE Seat.cells X)) :
    DSt w0 db ⟨X ++ [s], d.waits⟩ v' wv (w''.setCell ⟨db, 0, none⟩ v') := by
  have h1 := h.below hb
  have hov : ∀ q, ov.ownBlock = some q → w.heap.size ≤ q := fun q hq => (own_lo ho hq).1
  have hne : some db ≠ ov.ownBlock := fun e => by have := hov db e.symm; have := h.lt; omega
  have hbx : w''.heap[db]? = some (.cells #[sv, wv] 45 (0, 0)) := (hA.grown.block db h1.lt (fun e => hne e)).trans h1.box
  have hw : w''.ownsRow w0.heap.size 53 2 wv d.waits.length (flatE Seat.cells d.waits) := h1.waits.kept hA.grown (by
    cases hq : wv.ownBlock with
    | none => exact .inl rfl
    | some q => exact .inr (fun e => by have := hov q e.symm; have := (own_lo h.waits hq).2; omega))
  have hs : w''.ownsRow w0.heap.size 53 2 v' (X ++ [s]).length (flatE Seat.cells (X ++ [s])) := row_base hA.own h.size
  have hlt := h.low
  refine ⟨grows_trans (grow_keep h1.keep hA.grown (fun q hq => Nat.le_trans h.size (hov q hq))) (Only.setCell _ db 0 _ 0), by simp [World.setCell, Array.getElem?_modify, hbx], own_set hs hlt _ _, own_set hw hlt _ _, ?_, hlt⟩
  cases hq : v'.ownBlock with
  | none => exact .inl rfl
  | some q =>
    refine .inr fun e => ?_
    have h2 : w.heap.size ≤ q := (own_lo hA.own hq).1
    have h3 := (own_lo h.waits e.symm).2
    omega
theorem DSt.wait (h : DSt w0 db d sv wv w) (hb : RowKit.Below w.heap.size w w') (hA : AppT Seat.cells 2 53 w' w0.heap.size wv d.waits [s] v' w'') :
    DSt w0 db ⟨d.seats, d.waits ++ [s]⟩ sv v' (w''.setCell ⟨db, 1, none⟩ v') := by
  have h1 := h.below hb
  have hov : ∀ q, wv.ownBlock = some q → w0.heap.size ≤ q := fun q hq => (own_lo h.waits hq).1
  have hlt := h.low
  have hne : some db ≠ wv.ownBlock := fun e => by have := hov db e.symm; omega
  have hbx : w''.heap[db]? = some (.cells #[sv, wv] 45 (0, 0)) := (hA.grown.block db h1.lt (fun e => hne e)).trans h1.box
  have hw : w''.ownsRow w0.heap.size 53 2 sv d.seats.length (flatE Seat.cells d.seats) := h1.seats.kept hA.grown h.apart
  refine ⟨grows_trans (grow_keep h1.keep hA.grown hov) (Only.setCell _ db 1 _ 0), by simp [World.setCell, Array.getElem?_modify, hbx], own_set hw hlt _ _, own_set hA.own hlt _ _, ?_, hlt⟩
  cases hq : sv.ownBlock with
  | none => exact .inl rfl
  | some q =>
    refine .inr fun e => ?_
    rcases hA.block with h2 | h2
    · rw [h2, ← hq] at e
      rcases h.apart with h3 | h3
      · rw [hq] at h3; cases h3
      · exact h3 e
    · have := h2 q e.symm
      have := (own_lo h1.seats hq).2
      omega
theorem RulesAt.lt {b1 b2 : Nat} {L : List Off} {M : List Seat} (h : RulesAt w b1 b2 L M) : b1 < w.heap.size ∧ b2 < w.heap.size := by
  obtain ⟨⟨n1, D1, h1, _⟩, ⟨n2, D2, h3, _⟩⟩ := h
  exact ⟨h1.lt, h3.lt⟩
theorem RulesAt.grown {b1 b2 q : Nat} {L : List Off} {M : List Seat} (h : RulesAt w b1 b2 L M) (hg : w.grownBy w' (some q)) (h1 : b1 ≠ q) (h2 : b2 ≠ q) : RulesAt w' b1 b2 L M := by
  obtain ⟨⟨n1, D1, o1, o2⟩, ⟨n2, D2, o3, o4⟩⟩ := h
  exact ⟨⟨n1, D1, o1.kept hg (by simpa using h1), o2⟩, ⟨n2, D2, o3.kept hg (by simpa using h2), o4⟩⟩
theorem stepD_named {L : List Off} {M : List Seat} {most : Int} {d : Deal} {x : Req} {Ot : List Seat} {fin : Bool} (h1 : Ot = othersD d.seats x) (h2 : fin = fineD d.seats x) :
    stepD L M most d x = if fin = true ∧ fitsP L M most Ot (seatOf x) = 0 then ⟨Ot ++ [seatOf x], d.waits⟩ else if seatOf x ∈ d.waits then d else ⟨d.seats, d.waits ++ [seatOf x]⟩ := by
  rw [h1, h2]; rfl
theorem DSt.after (h : DSt w0 db d sv wv w) {row : Option Nat} (hg : w.grownBy w' row) (hr : ∀ q, row = some q → w0.heap.size ≤ q) : w'.heap[db]? = some (.cells #[sv, wv] 45 (0, 0)) :=
  (hg.block db h.lt (fun e => by have := hr db e.symm; have := h.low; omega)).trans h.box
def DealPost (L : List Off) (M : List Seat) (most : Int) (R : List Req) (w : World) (e : Ending) (w' : World) : Prop :=
  ∃ sv wv O, e = .returned (.agg #[sv, wv]) ∧ ActOrd R O ∧ RowIn Seat.cells w' sv (dealP L M most O).seats ∧ RowIn Seat.cells w' wv (dealP L M most O).waits ∧ RowKit.Below w.heap.size w w'
theorem ord_of {O A : List Req} (hp : O.Perm A) (hs : O.Pairwise fun a b => ltOf cmpB b a = false) (hn : A.Pairwise fun a b => numR a ≠ numR b) : IsOrd O A :=
  isOrd_of hp hn (hs.imp fun {a b} h h2 => by simp [ltOf] at h; omega)
theorem deal_wf {L : List Off} {M : List Seat} {most : Int} (O : List Req) : (∀ r ∈ O, (seatOf r).wf) → ∀ x ∈ (dealP L M most O).seats, x.wf := by
  refine snoc_ind (p := fun O => (∀ r ∈ O, (seatOf r).wf) → ∀ x ∈ (dealP L M most O).seats, x.wf) (fun _ x hx => by cases hx) (fun a x ih h y hy => ?_) O
  have ih := ih fun r hr => h r (List.mem_append_left _ hr)
  rw [dealP_snoc] at hy
  unfold stepD at hy
  split at hy
  · simp only [List.mem_append, List.mem_singleton] at hy
    rcases hy with hy | rfl
    · exact ih y ((others_sub _ _).subset hy)
    · exact h x (by simp)
  · split at hy <;> exact ih y hy
/-- One taken out of a list without repetition. -/
theorem out_filter : ∀ (l : List Seat) (k : Nat) (s : Seat), l.Nodup → l[k]? = some s → l.take k ++ l.drop (k + 1) = l.filter fun x => decide (x ≠ s)
  | [], k, s, _, h => by simp at h
  | a :: l, 0, s, hn, h => by
    simp only [List.getElem?_cons_zero, Option.some.injEq] at h
    subst h
    have h1 := (List.nodup_cons.1 hn).1
    have : l.filter (fun x => decide (x ≠ a)) = l := List.filter_eq_self.2 fun x hx => by simp; exact fun e => h1 (by rw [← e]; exact hx)
    rw [List.filter_cons, if_neg (by simp), this]; rfl
  | a :: l, k + 1, s, hn, h => by
    simp only [List.getElem?_cons_succ] at h
    have h1 := (List.nodup_cons.1 hn).1
    have hne : a ≠ s := fun e => h1 (by rw [e]; exact List.mem_of_getElem? h)
    have ih := out_filter l k s (List.nodup_cons.1 hn).2 h
    simp only [List.take_succ_cons, List.drop_succ_cons, List.cons_append, ih]
    simp [hne]
theorem give_test (g : ByteArray) : (!g.toList.isEmpty) = !decide (g.size = 0) := by
  rw [ByteArray.toList_eq, ba_size]
  cases g.data.toList <;> simp
set_option maxHeartbeats 8000000 in
set_option maxRecDepth 100000 in
theorem deal_any (N : Nat) (hSB : SortsB N) (hN : N ≤ 1000000) (ov mv lv : Value) (L : List Off) (M : List Seat) (most : Int) (R : List Req) (w : World) (ho : RowIn Off.cells w ov L) (hoo : ∀ o ∈ L, OffOk w o ∧ o.few) (hc : ∀ o ∈ L, o.code.size ≤ maxLen) (hm : RowIn Seat.cells w mv M) (hs : ∀ s ∈ M, s.wf) (lL : L.length ≤ 1000000) (lM : M.length ≤ 1000000)
    (hr : ReqsIn w lv R) (lR : R.length ≤ 1000000) (hf : ∀ r ∈ R, r.fits) (hAN : ∀ O, IsSet O R → (actR O).length ≤ N) :
    Calls Tryz.prog 10 #[ov, mv, .int .i64 most, lv] w (DealPost L M most R w) := by
  obtain ⟨p1, c1, rfl, _⟩ := ho.form
  obtain ⟨p2, c2, rfl, _⟩ := hm.form
  obtain ⟨p3, c3, rfl, _⟩ := hr.form
  have HOO := Lib.hid hoo
  have HF := Lib.hid hf
  have hb0 := below_alloc1 w (.cells #[.slice none 0 0, .slice none 0 0] 45)
  have hres0 := heap_alloc_new w (.cells #[.slice none 0 0, .slice none 0 0] 45)
  have cp := prepare_any _ _ L M most _ (ho.below hb0) (hm.below hb0) hc hs lL lM
  have HR := Lib.hid hr
  clear hoo hf ho hm hc hs hr
  go_enter Tryz.func10, Tryz.ntmps10
  go_wp2_with fail
  refine cp.mono ?_
  rintro _ w1 ⟨b1, b2, rfl, hRu, hb1⟩
  clear cp
  have hB1 := below_next hb0 hb1
  have hres1 := (hb1.block w.heap.size (by simp)).trans hres0
  clear hb0 hb1 hres0
  go_wp2_with fail
  have hB2 := (hB1.alloc hB1.size (.cells #[.map (some b1), .map (some b2), .int .i64 most] 65)).alloc (by have := hB1.size; simp; omega) (.cells #[.slice none 0 0, .slice none 0 0] 45)
  have hb12 := (below_alloc1 w1 (.cells #[.map (some b1), .map (some b2), .int .i64 most] 65)).alloc (by simp) (.cells #[.slice none 0 0, .slice none 0 0] 45)
  have hRu2 := hRu.below hb12
  have hres2 := (hb12.block w.heap.size (by have := hB1.size; have := (Array.getElem?_eq_some_iff.1 hres1).1; omega)).trans hres1
  have hgr2 := ((below_alloc1 (w1.alloc (.cells #[.map (some b1), .map (some b2), .int .i64 most] 65)) (.cells #[.slice none 0 0, .slice none 0 0] 45)).block w1.heap.size (by simp)).trans (heap_alloc_new w1 (.cells #[.map (some b1), .map (some b2), .int .i64 most] 65))
  have hdb2 := new_two w1 (.cells #[.map (some b1), .map (some b2), .int .i64 most] 65) (.cells #[.slice none 0 0, .slice none 0 0] 45)
  have hsz1 : w.heap.size < w1.heap.size := (Array.getElem?_eq_some_iff.1 hres1).1
  have hblt := hRu.lt
  clear hb12 hRu hres1 hB1
  generalize (w1.alloc _).alloc _ = w2 at hB2 hRu2 hres2 hgr2 hdb2 ⊢
  generalize hgr : w1.heap.size = gr at hsz1 hgr2 hdb2 hblt ⊢
  have HR2 := Lib.hid (HR.out.below hB2)
  refine (active_any _ R w2 HR2.out lR HF.out).mono ?_
  rintro _ w3 ⟨va, A, rfl, hA, hrow, hb3⟩
  have hAlen := hAN A hA
  obtain ⟨p4, c4, rfl⟩ := own_form hrow
  have hvin : ReqsIn w3 (.slice p4 (actR A).length c4) (actR A) := reqsIn_own hrow
  have cv := callsIn_wide.1 (values_in Fence.wide 1 (wide_fn _) rfl p4 (actR A).length c4 w3)
  have hb4 := below_alloc1 w3 (.cells #[.slice p4 (actR A).length c4] 30)
  have hm4 : (w3.alloc (.cells #[.slice p4 (actR A).length c4] 30)).cell? ⟨w3.heap.size, 0, none⟩ = some (.slice p4 (actR A).length c4) := Lib.cell_of_heap (heap_alloc_new w3 _) 0
  have cso := sortedStable_any N hSB hN w3.heap.size _ (actR A) (w3.alloc (.cells #[.slice p4 (actR A).length c4] 30)) (by simp) hm4 (hvin.below hb4) hAlen
  have hB3 := below_next hB2 hb3
  have hB4 := below_next hB3 hb4
  clear hm4 hvin hrow
  go_wp2_with fail
  refine cv.mono ?_
  rintro _ _ ⟨rfl, rfl⟩
  go_wp2_with fail
  refine cso.mono ?_
  rintro _ w5 ⟨v5, O, rfl, hp, hso, hrow5, hb5⟩
  have hord : IsOrd O (actR A) := ord_of hp hso (actR_nums A)
  have hact : Hid (ActOrd R O) := Lib.hid ⟨A, hA, hord⟩
  have hOl : O.length ≤ R.length := hact.out.len
  have hb25 : RowKit.Below w2.heap.size w2 w5 := below_next (below_next hb3 hb4) hb5
  have hB5 := below_next hB4 hb5
  have hRu5 := hRu2.below hb25
  have hres5 := (hb25.block w.heap.size (Array.getElem?_eq_some_iff.1 hres2).1).trans hres2
  have hgr5 := (hb25.block gr (Array.getElem?_eq_some_iff.1 hgr2).1).trans hgr2
  have hdb5 := (hb25.block (gr + 1) (Array.getElem?_eq_some_iff.1 hdb2).1).trans hdb2
  obtain ⟨p5, c5, rfl⟩ := own_form hrow5
  have HV := Lib.hid (reqsIn_own hrow5)
  have HVB : Hid (∀ g o, p5 = some ⟨g, o, none⟩ → gr + 1 < g) := Lib.hid fun g o hg => by
    subst hg
    have h1 := (own_lo hrow5 (q := g) rfl).1
    have h2 := (Array.getElem?_eq_some_iff.1 hdb2).1
    have h3 := hb3.size
    have h4 := hb4.size
    omega
  have hst : DSt w5 (gr + 1) ⟨[], []⟩ (.slice none 0 0) (.slice none 0 0) w5 := ⟨below_grows (Below.refl _ _), hdb5, World.ownsRow_nil _ _ _ _, World.ownsRow_nil _ _ _ _, .inl rfl, (Array.getElem?_eq_some_iff.1 hdb5).1⟩
  have HB5 := Lib.hid hB5
  have HRu := Lib.hid hRu5
  have HSW : Hid (∀ r ∈ O, (seatOf r).wf ∧ (giveOf r).wf) := Lib.hid fun r hr => by
    have h := (HF.out r (hact.out.sub hr).1).1
    exact ⟨⟨h.2.2.1, h.2.2.2.2.1⟩, ⟨h.2.2.1, h.2.2.2.2.2.1⟩⟩
  have lgr : gr < w5.heap.size := (Array.getElem?_eq_some_iff.1 hgr5).1
  have lre : w.heap.size < w5.heap.size := (Array.getElem?_eq_some_iff.1 hres5).1
  have HGR := Lib.hid hgr5
  have HRE := Lib.hid hres5
  clear hp hso hrow5 hb5 hb25 hb3 hb4 hB2 hB3 hB4 hB5 hRu2 hRu5 hres2 hres5 hgr2 hgr5 hdb2 hdb5 cv cso hord hA hAlen
  go_wp2_with fail
  go_loopw [26] (fun i wr => ∃ (k : Nat) (sv wv : Value), k ≤ O.length ∧ i = .int .i64 k ∧ DSt w5 (gr + 1) (dealP L M most (O.take k)) sv wv wr) (fun i _ => O.length - (RowKit.intOf i).toNat)
  case atStart => exact ⟨0, _, _, Nat.zero_le _, rfl, hst⟩
  case round =>
    clear hst
    obtain ⟨k, sv, wv, hk, rfl, hst⟩ := hrel
    obtain ⟨ps, cs, rfl⟩ := own_form hst.seats
    obtain ⟨pw, cw, rfl⟩ := own_form hst.waits
    by_cases hlt : k < O.length
    · obtain ⟨g, o, c', hv, _, hgl, hx⟩ := HV.out.at_ (by omega)
      have e1 := (Value.slice.inj hv).1
      subst e1
      have hz := List.getElem?_eq_getElem hlt
      have hgb := HVB.out g o rfl
      have hatk := (hx k _ hz).grown hst.keep (by simp; omega)
      have HX := Lib.hid (HSW.out _ (List.getElem_mem hlt))
      have HTK := Lib.hid (take_one hz)
      generalize O[k] = x at hz hatk HX HTK
      have HDW := Lib.hid (deal_wf (L := L) (M := M) (most := most) (O.take k) fun r hr => (HSW.out r (List.mem_of_mem_take hr)).1)
      have hdl := deal_len (L := L) (met := M) (most := most) (O.take k)
      have HND := Lib.hid (deal_nodup (L := L) (met := M) (most := most) (O.take k))
      have hdl1 : (dealP L M most (O.take k)).seats.length ≤ 999999 := by have := hdl.1; simp at this; omega
      have hdl2 : (dealP L M most (O.take k)).waits.length ≤ 999999 := by have := hdl.2; simp at this; omega
      have HSN := Lib.hid (dealP_snoc L M most (O.take k) x)
      rw [← HTK.out] at HSN
      generalize dealP L M most (O.take k) = d at hst HDW HND hdl1 hdl2 HSN
      clear hv hx hz hdl
      have hb2 := (below_alloc1 wr (.cells x.cells 39)).alloc (by simp) (.cells #[.int .i64 x.student, .string x.code] 53)
      have hst2 := hst.below hb2
      have hbx : ∀ j, (wr.alloc (.cells x.cells 39)).cell? ⟨wr.heap.size, j, none⟩ = x.cells[j]? := fun j => Lib.cell_of_heap (heap_alloc_new wr _) j
      have hbx2 : ∀ j, ((wr.alloc (.cells x.cells 39)).alloc (.cells #[.int .i64 x.student, .string x.code] 53)).cell? ⟨wr.heap.size, j, none⟩ = x.cells[j]? := fun j => by rw [(below_alloc1 (wr.alloc (.cells x.cells 39)) _).cell (p := ⟨wr.heap.size, j, none⟩) (by simp)]; exact hbx j
      have hbs2 : ∀ j, ((wr.alloc (.cells x.cells 39)).alloc (.cells #[.int .i64 x.student, .string x.code] 53)).cell? ⟨wr.heap.size + 1, j, none⟩ = (#[.int .i64 x.student, .string x.code] : Array Value)[j]? := fun j => Lib.cell_of_heap (new_two _ _ _) j
      have hdc2 := hst2.cell
      have hl2 : wr.heap.size + 1 < ((wr.alloc (.cells x.cells 39)).alloc (.cells #[.int .i64 x.student, .string x.code] 53)).heap.size := by simp
      have ccl := clone_seats _ d.seats _ (rowIn_own (fun _ => rfl) (by decide) hst2.seats) (by omega)
      have HST := Lib.hid hst
      simp only [Req.cells] at hb2 hst2 hbx hbx2 hbs2 hdc2 hl2 ccl
      clear hst
      go_wp2_with ((with_reducible refine wpList_load_mid (op := ⟨some 29, _, _, _, _, _⟩) ?_ 39 (.tmp 28) ?_ g (o + k * 9) ?_ (Req.cells x).toList _ ?_ Tryz.underlying39 ?_ ?_ ?_); rfl; rfl; rfl; exact hatk; rfl; kernel_rfl)
      refine ccl.mono ?_
      rintro _ w3' ⟨vo, rfl, hown3, hb3⟩
      obtain ⟨po, co, rfl⟩ := own_form hown3
      clear ccl hbx hatk
      generalize (wr.alloc _).alloc _ = wr2 at hb2 hst2 hbx2 hbs2 hdc2 hl2 hown3 hb3
      have hbx3 : ∀ j, w3'.cell? ⟨wr.heap.size, j, none⟩ = _ := fun j => (hb3.cell (p := ⟨wr.heap.size, j, none⟩) (by show wr.heap.size < wr2.heap.size; omega)).trans (hbx2 j)
      obtain ⟨Ot, hOt⟩ : ∃ Ot, Ot = othersD d.seats x := ⟨_, rfl⟩
      obtain ⟨fin, hfin⟩ : ∃ fin, fin = fineD d.seats x := ⟨_, rfl⟩
      have HOt := Lib.hid hOt
      have Hfin := Lib.hid hfin
      clear hOt hfin
      obtain ⟨t, hT⟩ : ∃ t, (!x.give.toList.isEmpty) = t := ⟨_, rfl⟩
      have HT : Hid (t = !decide (x.give.size = 0)) := Lib.hid (by rw [← hT]; exact give_test x.give)
      have HW3 := Lib.hid hb3
      have HO3 := Lib.hid hown3
      clear hb3 hown3
      go_upto_if 40 with fail
      go_cut [14, 15, 16] (fun v14 v15 v16 wx => ∃ p c, v14 = .slice p Ot.length c ∧ v15 = .bool fin ∧ v16 = v16 ∧ Hid (wx.ownsRow wr2.heap.size 53 2 (.slice p Ot.length c) Ot.length (flatE Seat.cells Ot)) ∧ Hid (RowKit.Below wr2.heap.size wr2 wx))
      case first =>
        have hown3 := HO3.out
        have hb3 := HW3.out
        cases t
        · have hg0 : x.give.size = 0 := by have := HT.out; simpa using this
          have hOd : Ot = d.seats := by rw [HOt.out, others_none hg0]
          have hfd : fin = true := by rw [Hfin.out, fine_none hg0]
          clear hown3 hb3
          go_wp2_with fail
          go_meet
          case rel => exact ⟨po, co, by rw [hOd], by rw [hfd], trivial, by rw [hOd]; exact HO3, HW3⟩
        · have hg1 : ¬ x.give.size = 0 := by have := HT.out; simpa using this
          have HOd : Hid (Ot = d.seats.filter fun y => decide (y ≠ giveOf x)) := Lib.hid (by rw [HOt.out]; unfold othersD; rw [if_neg hg1])
          have Hfd : Hid (fin = decide (giveOf x ∈ d.seats)) := Lib.hid (by rw [Hfin.out]; unfold fineD; rw [decide_eq_false hg1]; rfl)
          have ci := index_seats (.slice po d.seats.length co) d.seats (giveOf x) w3' (rowIn_own (fun _ => rfl) (by decide) hown3) (by omega)
          clear hown3 hb3 hg1
          go_wp2_with fail
          refine ci.mono ?_
          rintro _ w4 ⟨hb4, ⟨hni, rfl⟩ | ⟨k1, hk1, hs1, hn1, rfl⟩⟩
          · have hOd : Ot = d.seats := by
              rw [HOd.out]
              exact List.filter_eq_self.2 fun y hy => by simp; exact fun e => hni (by rw [← e]; exact hy)
            have hfd : fin = false := by rw [Hfd.out, decide_eq_false hni]
            have HO4 := Lib.hid (HO3.out.kept (row := none) (below_grows hb4) (by cases po <;> simp [Value.ownBlock]))
            have HB4 := Lib.hid (below_next HW3.out hb4)
            clear hb4 ci
            go_wp2_with fail
            go_meet
            case rel => exact ⟨po, co, by rw [hOd], by rw [hfd], trivial, by rw [hOd]; exact HO4, HB4⟩
          · have hOd : d.seats.take k1 ++ d.seats.drop (k1 + 1) = Ot := by rw [HOd.out]; exact out_filter _ _ _ HND.out hs1
            have hfd : fin = true := by rw [Hfd.out, decide_eq_true (List.mem_of_getElem? hs1)]
            have hown4 := HO3.out.kept (row := none) (below_grows hb4) (by cases po <;> simp [Value.ownBlock])
            have HB4 := Lib.hid (below_next HW3.out hb4)
            obtain ⟨g4, hg4⟩ : ∃ g4, po = some ⟨g4, 0, none⟩ := by
              rcases HO3.out.2 with ⟨_, h0⟩ | ⟨g4, _, _, h, _⟩
              · omega
              · injection h with h; exact ⟨g4, h⟩
            subst hg4
            have cd := delete_seats wr2.heap.size g4 co d.seats k1 w4 hown4 hk1 (by omega)
            have hlo4 := (own_lo hown4 (q := g4) rfl).1
            rw [hOd] at cd
            have hk0 : (k1 : Int) ≥ 0 := by omega
            clear hb4 ci hown4 hs1 hn1
            go_wp2_with fail
            refine cd.mono ?_
            rintro _ w6 ⟨v6, rfl, hown6, hg6⟩
            obtain ⟨p6, c6, rfl⟩ := own_form hown6
            have HO6 := Lib.hid hown6
            have HB6 := Lib.hid (HB4.out.grown hg6 HB4.out.size (fun q hq => by injection hq with hq; omega))
            clear hown6 hg6 cd
            go_wp2_with fail
            go_meet
            case rel => exact ⟨p6, c6, rfl, by rw [hfd], trivial, HO6, HB6⟩
      case rest =>
        obtain ⟨p, c, rfl, rfl, _, HO4, HB4⟩ := hcut
        have hgrc : wc.heap[gr]? = some (.cells #[.map (some b1), .map (some b2), .int .i64 most] 65 (0, 0)) :=
          (HB4.out.block gr (by have := hst2.size; omega)).trans ((hb2.block gr (by have := HST.out.size; omega)).trans ((HST.out.keep.block gr lgr (by simp)).trans HGR.out))
        have HST2 := Lib.hid (stepD_named (L := L) (M := M) (most := most) HOt.out Hfin.out)
        have hOs : Ot.Sublist d.seats := by rw [HOt.out]; exact others_sub _ _
        have hOl2 : Ot.length ≤ 999999 := Nat.le_trans hOs.length_le hdl1
        have hBwc : RowKit.Below w.heap.size w wc := below_next (below_next (HB5.out.grown HST.out.keep HB5.out.size (fun q hq => by injection hq with hq; omega)) hb2) HB4.out
        have hRuc : RulesAt wc b1 b2 L M := ((HRu.out.grown HST.out.keep (by omega) (by omega)).below hb2).below HB4.out
        have cft := fits_any b1 b2 L M most (.slice p Ot.length c) Ot (seatOf x) wc hRuc (fun o ho => ⟨(HOO.out o ho).1.below hBwc, (HOO.out o ho).2⟩) (rowIn_own (fun _ => rfl) (by decide) HO4.out) (by omega) HX.out.1 (fun y hy => HDW.out y (hOs.subset hy))
        have hgc : ∀ j, wc.cell? ⟨gr, j, none⟩ = (#[.map (some b1), .map (some b2), .int .i64 most] : Array Value)[j]? := fun j => Lib.cell_of_heap hgrc j
        have hscc : ∀ j, wc.cell? ⟨wr.heap.size + 1, j, none⟩ = (#[.int .i64 x.student, .string x.code] : Array Value)[j]? := fun j => (HB4.out.cell (p := ⟨wr.heap.size + 1, j, none⟩) hl2).trans (hbs2 j)
        have hb4 := HB4.out
        clear hRuc hBwc hgrc hOs hbx3 hbx2 hdc2
        cases fin
        · have HStep : Hid (dealP L M most (O.take (k + 1)) = if seatOf x ∈ d.waits then d else ⟨d.seats, d.waits ++ [seatOf x]⟩) := Lib.hid (by rw [HSN.out, HST2.out, if_neg (by simp)])
          clear cft hgc
          have hsW := hst2.below hb4
          have hcW := hsW.cell
          have hsc : ∀ j, wc.cell? ⟨wr.heap.size + 1, j, none⟩ = (#[.int .i64 x.student, .string x.code] : Array Value)[j]? := fun j => (hb4.cell (p := ⟨wr.heap.size + 1, j, none⟩) hl2).trans (hbs2 j)
          have cc := contains_seats (.slice pw d.waits.length cw) d.waits (seatOf x) wc (rowIn_own (fun _ => rfl) (by decide) hsW.waits) (by omega)
          have HBW := Lib.hid hb4
          go_wp2_with fail
          refine cc.mono ?_
          rintro _ w8 ⟨rfl, hb8⟩
          have HB8 := Lib.hid (below_next HBW.out hb8)
          by_cases hin : seatOf x ∈ d.waits
          · have hd1 : (decide (seatOf x ∈ d.waits)) = true := decide_eq_true hin
            have HN : Hid (dealP L M most (O.take (k + 1)) = d) := Lib.hid (by rw [HStep.out, if_pos hin])
            have hst8 := hst2.below HB8.out
            rw [hd1]
            clear hin hd1 hb8 hcW hsc cc
            go_wp2_with fail
            go_roundw
            case rel => exact ⟨k + 1, _, _, by omega, by go_num, by rw [HN.out]; exact hst8⟩
            case measure => simp [RowKit.intOf]; omega
          · have hd1 : (decide (seatOf x ∈ d.waits)) = false := decide_eq_false hin
            have HN : Hid (dealP L M most (O.take (k + 1)) = ⟨d.seats, d.waits ++ [seatOf x]⟩) := Lib.hid (by rw [HStep.out, if_neg hin])
            have hst8 := hst2.below HB8.out
            have hc8 := hst8.cell
            have hs8 : ∀ j, w8.cell? ⟨wr.heap.size + 1, j, none⟩ = (#[.int .i64 x.student, .string x.code] : Array Value)[j]? := fun j => (HB8.out.cell (p := ⟨wr.heap.size + 1, j, none⟩) hl2).trans (hbs2 j)
            have hb9 : RowKit.Below wr2.heap.size wr2 (w8.alloc (.cells #[.int .i64 x.student, .string x.code] 53)) := HB8.out.alloc HB8.out.size _
            have hst9 := hst2.below hb9
            have hown9 := hst9.waits
            have hlit := rowIn_lit (enc := Seat.cells) (e := 53) w8 [seatOf x] #[.int .i64 x.student, .string x.code] w8.heap.size rfl rfl 1 rfl
            have hsz9 := hst9.size
            rw [hd1]
            clear hin hd1 hb8 hcW hsc cc
            go_wp2_with (at_builtin; refine wpList_append_row seatT rfl (.tmp 77) (.tmp 79) rfl w5.heap.size _ _ d.waits [seatOf x] rfl rfl hown9 hlit (by simp; omega) hsz9 ?_; intro v9 w9 hA9; obtain ⟨p9, c9, rfl⟩ := own_form hA9.own; have hbx9 := hst9.after hA9.grown (fun q hq => (own_lo hown9 hq).1); have hc9 : ∀ j, w9.cell? ⟨gr + 1, j, none⟩ = (#[.slice ps d.seats.length cs, .slice pw d.waits.length cw] : Array Value)[j]? := fun j => Lib.cell_of_heap hbx9 j; have hf9 : ∀ j, w9.frozen? ⟨gr + 1, j, none⟩ = false := fun j => Lib.frozen_of_heap hbx9 j)
            have hstF := hst2.wait hb9 hA9
            simp only [List.length_append, List.length_singleton] at hstF
            go_roundw
            case rel => exact ⟨k + 1, _, _, by omega, by go_num, by rw [HN.out]; exact hstF⟩
            case measure => simp [RowKit.intOf]; omega
        · by_cases he : fitsP L M most Ot (seatOf x) = 0
          · have HN : Hid (dealP L M most (O.take (k + 1)) = ⟨Ot ++ [seatOf x], d.waits⟩) := Lib.hid (by rw [HSN.out, HST2.out, if_pos ⟨rfl, he⟩])
            rw [he] at cft
            clear he
            go_wp2_with fail
            refine cft.mono ?_
            rintro _ w7 ⟨rfl, hb7⟩
            have hB7 := below_next hb4 hb7
            have hs7 : ∀ j, w7.cell? ⟨wr.heap.size + 1, j, none⟩ = (#[.int .i64 x.student, .string x.code] : Array Value)[j]? := fun j => (hB7.cell (p := ⟨wr.heap.size + 1, j, none⟩) hl2).trans (hbs2 j)
            have hb9 : RowKit.Below wr2.heap.size wr2 (w7.alloc (.cells #[.int .i64 x.student, .string x.code] 53)) := hB7.alloc hB7.size _
            have hown9 : (w7.alloc (.cells #[.int .i64 x.student, .string x.code] 53)).ownsRow wr2.heap.size 53 2 (.slice p Ot.length c) Ot.length (flatE Seat.cells Ot) := (HO4.out.kept (row := none) (below_grows hb7) (by cases p <;> simp [Value.ownBlock])).alloc _
            have hst9 := hst2.below hb9
            have hlit := rowIn_lit (enc := Seat.cells) (e := 53) w7 [seatOf x] #[.int .i64 x.student, .string x.code] w7.heap.size rfl rfl 1 rfl
            have hsz9 := hb9.size
            clear hb7 cft hgc hscc hb4
            go_wp2_with (at_builtin; go_loud (refine wpList_append_row seatT rfl (.tmp 65) (.tmp 67) rfl wr2.heap.size _ _ Ot [seatOf x] rfl rfl hown9 hlit (by simp; omega) hsz9 ?_; intro v9 w9 hA9; obtain ⟨p9, c9, rfl⟩ := own_form hA9.own; have hbx9 := hst9.after hA9.grown (fun q hq => Nat.le_trans hst2.size (own_lo hown9 hq).1); have hc9 : ∀ j, w9.cell? ⟨gr + 1, j, none⟩ = (#[.slice ps d.seats.length cs, .slice pw d.waits.length cw] : Array Value)[j]? := fun j => Lib.cell_of_heap hbx9 j; have hf9 : ∀ j, w9.frozen? ⟨gr + 1, j, none⟩ = false := fun j => Lib.frozen_of_heap hbx9 j))
            have hstF := hst2.seat hb9 hA9 hown9
            simp only [List.length_append, List.length_singleton] at hstF
            go_roundw
            case rel => exact ⟨k + 1, _, _, by omega, by go_num, by rw [HN.out]; exact hstF⟩
            case measure => simp [RowKit.intOf]; omega
          · have HStep : Hid (dealP L M most (O.take (k + 1)) = if seatOf x ∈ d.waits then d else ⟨d.seats, d.waits ++ [seatOf x]⟩) := Lib.hid (by rw [HSN.out, HST2.out, if_neg (fun h => he h.2)])
            generalize fitsP L M most Ot (seatOf x) = e at he cft
            have he2 : (e == 0) = false := by simpa using he
            clear he
            go_wp2_with fail
            refine cft.mono ?_
            rintro _ w7 ⟨rfl, hb7⟩
            have hB7 := below_next hb4 hb7
            clear hb7 cft hgc hscc hb4
            have hsW := hst2.below hB7
            have hcW := hsW.cell
            have hsc : ∀ j, w7.cell? ⟨wr.heap.size + 1, j, none⟩ = (#[.int .i64 x.student, .string x.code] : Array Value)[j]? := fun j => (hB7.cell (p := ⟨wr.heap.size + 1, j, none⟩) hl2).trans (hbs2 j)
            have cc := contains_seats (.slice pw d.waits.length cw) d.waits (seatOf x) w7 (rowIn_own (fun _ => rfl) (by decide) hsW.waits) (by omega)
            have HBW := Lib.hid hB7
            go_wp2_with fail
            refine cc.mono ?_
            rintro _ w8 ⟨rfl, hb8⟩
            have HB8 := Lib.hid (below_next HBW.out hb8)
            by_cases hin : seatOf x ∈ d.waits
            · have hd1 : (decide (seatOf x ∈ d.waits)) = true := decide_eq_true hin
              have HN : Hid (dealP L M most (O.take (k + 1)) = d) := Lib.hid (by rw [HStep.out, if_pos hin])
              have hst8 := hst2.below HB8.out
              rw [hd1]
              clear hin hd1 hb8 hcW hsc cc
              go_wp2_with fail
              go_roundw
              case rel => exact ⟨k + 1, _, _, by omega, by go_num, by rw [HN.out]; exact hst8⟩
              case measure => simp [RowKit.intOf]; omega
            · have hd1 : (decide (seatOf x ∈ d.waits)) = false := decide_eq_false hin
              have HN : Hid (dealP L M most (O.take (k + 1)) = ⟨d.seats, d.waits ++ [seatOf x]⟩) := Lib.hid (by rw [HStep.out, if_neg hin])
              have hst8 := hst2.below HB8.out
              have hc8 := hst8.cell
              have hs8 : ∀ j, w8.cell? ⟨wr.heap.size + 1, j, none⟩ = (#[.int .i64 x.student, .string x.code] : Array Value)[j]? := fun j => (HB8.out.cell (p := ⟨wr.heap.size + 1, j, none⟩) hl2).trans (hbs2 j)
              have hb9 : RowKit.Below wr2.heap.size wr2 (w8.alloc (.cells #[.int .i64 x.student, .string x.code] 53)) := HB8.out.alloc HB8.out.size _
              have hst9 := hst2.below hb9
              have hown9 := hst9.waits
              have hlit := rowIn_lit (enc := Seat.cells) (e := 53) w8 [seatOf x] #[.int .i64 x.student, .string x.code] w8.heap.size rfl rfl 1 rfl
              have hsz9 := hst9.size
              rw [hd1]
              clear hin hd1 hb8 hcW hsc cc
              go_wp2_with (at_builtin; refine wpList_append_row seatT rfl (.tmp 77) (.tmp 79) rfl w5.heap.size _ _ d.waits [seatOf x] rfl rfl hown9 hlit (by simp; omega) hsz9 ?_; intro v9 w9 hA9; obtain ⟨p9, c9, rfl⟩ := own_form hA9.own; have hbx9 := hst9.after hA9.grown (fun q hq => (own_lo hown9 hq).1); have hc9 : ∀ j, w9.cell? ⟨gr + 1, j, none⟩ = (#[.slice ps d.seats.length cs, .slice pw d.waits.length cw] : Array Value)[j]? := fun j => Lib.cell_of_heap hbx9 j; have hf9 : ∀ j, w9.frozen? ⟨gr + 1, j, none⟩ = false := fun j => Lib.frozen_of_heap hbx9 j)
              have hstF := hst2.wait hb9 hA9
              simp only [List.length_append, List.length_singleton] at hstF
              go_roundw
              case rel => exact ⟨k + 1, _, _, by omega, by go_num, by rw [HN.out]; exact hstF⟩
              case measure => simp [RowKit.intOf]; omega
    · obtain rfl : k = O.length := by omega
      rw [List.take_length] at hst
      have hcell := hst.cell
      have hBw : RowKit.Below w.heap.size w wr := HB5.out.grown hst.keep HB5.out.size (fun q hq => by injection hq with hq; omega)
      have hrb := (hst.keep.block w.heap.size lre (by simp; omega)).trans HRE.out
      have hfr : ∀ j, wr.frozen? ⟨w.heap.size, j, none⟩ = false := fun j => Lib.frozen_of_heap hrb j
      have hrc : ∀ j, wr.cell? ⟨w.heap.size, j, none⟩ = (#[.slice none 0 0, .slice none 0 0] : Array Value)[j]? := fun j => Lib.cell_of_heap hrb j
      have HS := Lib.hid hst
      have hne : ¬ (gr + 1 = w.heap.size) := by omega
      clear hst
      go_wp2_with fail
      have h := HS.out
      have hg2 := grows_trans (Only.setCell wr w.heap.size 0 (.slice ps (dealP L M most O).seats.length cs) 0) (Only.setCell _ w.heap.size 1 (.slice pw (dealP L M most O).waits.length cw) 0)
      have hlo := h.size
      refine bodyPost_ret (v := .agg #[.slice ps (dealP L M most O).seats.length cs, .slice pw (dealP L M most O).waits.length cw]) (results_cell_row (P := Tryz.prog) Tryz.results10 _ _ w.heap.size 45 #[.slice ps (dealP L M most O).seats.length cs, .slice pw (dealP L M most O).waits.length cw] (0, 0) _ rfl ?_ Tryz.underlying45 rfl (by kernel_rfl)) rfl
        ⟨_, _, O, rfl, hact.out, rowIn_own (fun _ => rfl) (by decide) (own_set (own_set h.seats lre 0 _) lre 1 _), rowIn_own (fun _ => rfl) (by decide) (own_set (own_set h.waits lre 0 _) lre 1 _), hBw.grown hg2 hBw.size (fun q hq => by injection hq with hq; subst hq; exact Nat.le_refl _)⟩
      simp [World.setCell, Array.getElem?_modify, hrb]
end Go.Proofs.YteopjiedjnaeiaaGreat
namespace Go.Proofs.YteopjiedjnaeiaaGreat
open Go Go.Proofs Go.RowKit Go.Maps Go.Sort Go.Lib
attribute [local go_sem] Seat.cells

/-- A catalog and who has met what, as a world holds them. -/
structure CatIn (w : World) (ov mv : Value) (L : List Off) (M : List Seat) : Prop where
  off : RowIn Off.cells w ov L
  ok : ∀ o ∈ L, OffOk w o ∧ o.few
  code : ∀ o ∈ L, o.code.size ≤ maxLen
  met : RowIn Seat.cells w mv M
  wf : ∀ s ∈ M, s.wf
  lo : L.length ≤ 1000000
  lm : M.length ≤ 1000000
theorem CatIn.below {w w' : World} {ov mv : Value} {L : List Off} {M : List Seat} (h : CatIn w ov mv L M) (hb : RowKit.Below w.heap.size w w') : CatIn w' ov mv L M :=
  ⟨h.off.below hb, fun o ho => ⟨(h.ok o ho).1.below hb, (h.ok o ho).2⟩, h.code, h.met.below hb, h.wf, h.lo, h.lm⟩
theorem deal_cat (N : Nat) (hSB : SortsB N) (hN : N ≤ 1000000) (ov mv lv : Value) (L : List Off) (M : List Seat) (most : Int) (R : List Req) (w : World) (hc : CatIn w ov mv L M)
    (hr : ReqsIn w lv R) (lR : R.length ≤ 1000000) (hf : ∀ r ∈ R, r.fits) (hAN : ∀ O, IsSet O R → (actR O).length ≤ N) :
    Calls Tryz.prog 10 #[ov, mv, .int .i64 most, lv] w (DealPost L M most R w) :=
  deal_any N hSB hN ov mv lv L M most R w hc.off hc.ok hc.code hc.met hc.wf hc.lo hc.lm hr lR hf hAN
theorem checkP_step {L : List Off} {M : List Seat} {most : Int} {l : List Seat} {k : Nat} {s : Seat} (h : checkP L M most l k = 0) (hs : l[k]? = some s) : checkP L M most l (k + 1) = fitsP L M most (l.take k) s := by
  show (if checkP L M most l k = 0 then (match l[k]? with | some s => fitsP L M most (l.take k) s | none => 0) else checkP L M most l k) = _
  rw [if_pos h, hs]
theorem checkP_stop {L : List Off} {M : List Seat} {most : Int} {l : List Seat} {k : Nat} (h : checkP L M most l k ≠ 0) : ∀ n, k ≤ n → checkP L M most l n = checkP L M most l k := by
  intro n hn
  induction n with
  | zero => obtain rfl : k = 0 := by omega
            rfl
  | succ n ih =>
    rcases Nat.lt_or_ge n k with h' | h'
    · obtain rfl : k = n + 1 := by omega
      rfl
    · have ih := ih h'
      show (if checkP L M most l n = 0 then (match l[n]? with | some s => fitsP L M most (l.take n) s | none => 0) else checkP L M most l n) = _
      rw [if_neg (by rw [ih]; exact h), ih]





































































































end Go.Proofs.YteopjiedjnaeiaaGreat
