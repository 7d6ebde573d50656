/- The reference of layer 28: Order, the regions that draw. -/
import Derived.Test.YtjcogpalmgcpbaaGreatGear
import Derived.Deep.CutBlock
import Derived.Test.YtjcogpalmgcpbaaGreatGeab
/- The reference of layer 28: without, before, Order, Deal. -/
namespace Go.Proofs.YtjcogpalmgcpbaaGreat
open Go Go.Proofs Go.RowKit Go.Maps Go.Sort Go.Lib
attribute [local go_sem ↓] seat_eql seat_neq

theorem filter_take {l : List Seat} {p : Seat → Bool} {k : Nat} {x : Seat} (hk : l[k]? = some x) : (l.take (k + 1)).filter p = (l.take k).filter p ++ if p x = true then [x] else [] := by
  rw [List.take_add_one, hk, List.filter_append]
  congr 1
  by_cases h : p x = true <;> simp [h]
set_option maxHeartbeats 4000000 in
set_option maxRecDepth 100000 in
theorem refWithout_any (lv : Value) (l : List Seat) (s : Seat) (w : World) (h : RowIn Seat.cells w lv l) (hn : l.length ≤ 999999) :
    Calls Tryz.prog 32 #[lv, .agg #[.int .i64 s.student, .string s.code]] w fun e w' => ∃ p c, e = .returned (.slice p (l.filter fun x => decide (x ≠ s)).length c) ∧ RowIn Seat.cells w' (.slice p (l.filter fun x => decide (x ≠ s)).length c) (l.filter fun x => decide (x ≠ s)) ∧ RowKit.Below w.heap.size w w' := by
  obtain ⟨q, c0, rfl, _⟩ := h.form
  have hb0 := below_alloc1 w (.cells #[.int .i64 s.student, .string s.code] 38)
  have hx0 := heap_alloc_new w (.cells #[.int .i64 s.student, .string s.code] 38)
  have H := Lib.hid h
  clear h
  go_enter Tryz.func32, Tryz.ntmps32
  go_upto_region 1 with fail
  obtain ⟨b3, hb3⟩ : ∃ b, w.heap.size = b := ⟨_, rfl⟩
  rw [hb3] at hx0 ⊢
  generalize w.alloc _ = W at hb0 hx0 ⊢
  clear hb3
  go_wp2_with fail
  go_loopw [5, 6] (fun v i wr => ∃ (k : Nat) (X : List Seat) (p : Option Addr) (c : Nat), k ≤ l.length ∧ i = .int .i64 k ∧ v = .slice p X.length c ∧ Hid (X = (l.take k).filter fun x => decide (x ≠ s)) ∧ X.length ≤ k ∧ wr.ownsRow W.heap.size 38 2 (.slice p X.length c) X.length (flatE Seat.cells X) ∧ RowKit.Below W.heap.size W wr) (fun _ i _ => l.length - (RowKit.intOf i).toNat)
  case atStart => exact ⟨0, [], none, 0, Nat.zero_le _, rfl, rfl, Lib.hid rfl, Nat.le_refl _, ⟨rfl, .inl ⟨rfl, rfl⟩⟩, Below.refl _ _⟩
  case round =>
    obtain ⟨k, X, p, c, hk, rfl, rfl, HX, hXk, hown, hbr⟩ := hrel
    have hbw := below_next hb0 hbr
    by_cases hlt : k < l.length
    · obtain ⟨g, of, c', hv, _, hgl, hx⟩ := H.out.at_ (k := 2) (fun _ => rfl) (by omega)
      have e1 := (Value.slice.inj hv).1
      subst e1
      have hz := List.getElem?_eq_getElem hlt
      have hat := hx k _ hz
      have HTK := Lib.hid (filter_take (p := fun x => decide (x ≠ s)) hz)
      generalize l[k] = x at hz hat HTK
      have h0 : wr.cell? ⟨g, of + k * 2, none⟩ = some (.int .i64 x.student) := by rw [hbw.cell (p := ⟨g, of + k * 2, none⟩) hgl]; exact hat 0 _ rfl
      have h1 : wr.cell? ⟨g, of + k * 2 + 1, none⟩ = some (.string x.code) := by rw [hbw.cell (p := ⟨g, of + k * 2 + 1, none⟩) hgl]; exact hat 1 _ rfl
      have hc3 : ∀ j, wr.cell? ⟨b3, j, none⟩ = (#[.int .i64 s.student, .string s.code] : Array Value)[j]? := fun j => Lib.cell_of_heap ((hbr.block _ (lt_of_heap hx0)).trans hx0) j
      clear hv hx hz
      obtain ⟨G, hG⟩ : ∃ G, eqSeat ⟨x.student, x.code⟩ ⟨s.student, s.code⟩ = G := ⟨_, rfl⟩
      have HG : Hid (eqSeat x s = G) := Lib.hid hG
      have HOWN := Lib.hid hown
      clear hown
      cases G
      · have HA := Lib.hid hat
        clear hat
        have HF : Hid ((l.take (k + 1)).filter (fun x => decide (x ≠ s)) = X ++ [x]) := Lib.hid (by
          rw [HTK.out, ← HX.out, if_pos]
          rw [decide_eq_true_eq]
          intro e
          rw [(eqSeat_iff x s).2 e] at HG
          cases HG.out)
        go_wp2_with fail
        go_quiet (fail)
        generalize hW2 : World.drewN _ _ = W2
        have hb2 : RowKit.Below W.heap.size W W2 := by rw [← hW2]; exact blw_drewN hbr _
        have hown2 : W2.ownsRow W.heap.size 38 2 (.slice p X.length c) X.length (flatE Seat.cells X) := by rw [← hW2]; exact HOWN.out
        have hbw2 := below_next hb0 hb2
        have g0 : W2.cell? ⟨g, of + k * 2, none⟩ = some (.int .i64 x.student) := by rw [hbw2.cell (p := ⟨g, of + k * 2, none⟩) hgl]; exact HA.out 0 _ rfl
        have g1 : W2.cell? ⟨g, of + k * 2 + 1, none⟩ = some (.string x.code) := by rw [hbw2.cell (p := ⟨g, of + k * 2 + 1, none⟩) hgl]; exact HA.out 1 _ rfl
        have hlit := rowIn_lit (enc := Seat.cells) (e := 38) W2 [x] #[.int .i64 x.student, .string x.code] W2.heap.size rfl rfl 1 rfl
        have hb4 := below_next hb2 (below_alloc1 W2 (.cells #[.int .i64 x.student, .string x.code] 38))
        have hown4 := hown2.alloc (.cells #[.int .i64 x.student, .string x.code] 38)
        have HOWN4 := Lib.hid hown4
        have HLIT := Lib.hid hlit
        have hlow := hb4.size
        clear hW2 h0 h1 hc3 hown2 hown4 hlit
        go_wp2_with (at_builtin; refine wpList_append_row seatT rfl (.tmp 19) (.tmp 24) rfl W.heap.size (.slice p X.length c) _ X [x] rfl rfl HOWN4.out HLIT.out (by simp; omega) hlow ?_; intro v5 w5 hA5; obtain ⟨p5, c5, rfl⟩ := own_form hA5.own)
        have hb5 := hb4.grown hA5.grown hb4.size (fun q hq => (own_lo HOWN4.out hq).1)
        go_roundw
        case rel => exact ⟨k + 1, X ++ [x], p5, c5, by omega, by go_num, by simp, Lib.hid HF.out.symm, by simp; omega, hA5.own, hb5⟩
        case measure => simp [RowKit.intOf]; omega
      · have HF : Hid ((l.take (k + 1)).filter (fun x => decide (x ≠ s)) = X) := Lib.hid (by
          rw [HTK.out, ← HX.out, if_neg, List.append_nil]
          rw [decide_eq_true_eq]
          intro e
          exact e ((eqSeat_iff x s).1 HG.out))
        clear hat
        go_wp2_with fail
        go_quiet (fail)
        go_wp2_with fail
        go_roundw
        case rel => exact ⟨k + 1, X, p, c, by omega, by go_num, rfl, Lib.hid HF.out.symm, by omega, HOWN.out, blw_drewN hbr _⟩
        case measure => simp [RowKit.intOf]; omega
    · obtain rfl : k = l.length := by omega
      have hX := HX.out
      rw [List.take_length] at hX
      have hr := rowIn_own seatT.len seatT.pos hown
      go_wp2_with fail
      go_ret
      subst hX
      exact ⟨_, _, rfl, hr, hbw⟩
/-- .. comes before another one, as the reference says it. -/
def befR (a b : Req) : Bool :=
  if (a.priority != b.priority) = true then decide (b.priority < a.priority) else if (a.day != b.day) = true then decide (a.day < b.day) else if (a.server != b.server) = true then decide (a.server < b.server) else decide (a.seq < b.seq)
theorem cmpI_lt {x y : Int} : Lib.compareInt x y < 0 ↔ x < y := by
  unfold Lib.compareInt
  split
  · simp [*]
  · split <;> simp [*]
theorem cmpI_zero {x y : Int} : Lib.compareInt x y = 0 ↔ x = y := by
  unfold Lib.compareInt
  split
  · simp; omega
  · split
    · simp; omega
    · simp; omega
theorem befR_iff (a b : Req) : befR a b = true ↔ cmpB a b < 0 := by
  unfold befR cmpB
  by_cases h1 : a.priority = b.priority
  · rw [if_neg (by simp [h1]), if_pos (cmpI_zero.2 h1.symm)]
    by_cases h2 : a.day = b.day
    · rw [if_neg (by simp [h2]), if_pos (cmpI_zero.2 h2)]
      by_cases h3 : a.server = b.server
      · rw [if_neg (by simp [h3]), if_pos (cmpI_zero.2 h3), decide_eq_true_eq, cmpI_lt]
      · rw [if_pos (by simpa using h3), if_neg (fun e => h3 (cmpI_zero.1 e)), decide_eq_true_eq, cmpI_lt]
    · rw [if_pos (by simpa using h2), if_neg (fun e => h2 (cmpI_zero.1 e)), decide_eq_true_eq, cmpI_lt]
  · rw [if_pos (by simpa using h1), if_neg (fun e => h1 (cmpI_zero.1 e).symm), decide_eq_true_eq, cmpI_lt]
set_option maxHeartbeats 4000000 in
set_option maxRecDepth 100000 in
theorem before_any (a b : Req) (w : World) :
    Calls Tryz.prog 47 #[a.val, b.val] w fun e w' => e = .returned (.bool (befR a b)) ∧ RowKit.Below w.heap.size w w' := by
  have hbb := (below_alloc1 w (.cells a.cells 41)).alloc (by simp) (.cells b.cells 41)
  have hx0 : ((w.alloc (.cells a.cells 41)).alloc (.cells b.cells 41)).heap[w.heap.size]? = some (.cells a.cells 41 (0, 0)) := by rw [(below_alloc1 _ _).block _ (by simp)]; exact heap_alloc_new w _
  have hx1 := new_two w (.cells a.cells 41) (.cells b.cells 41)
  have hF : befR a b = befR a b := rfl
  conv at hF => rhs; unfold befR
  have HF := Lib.hid hF
  clear hF
  go_enter Tryz.func47, Tryz.ntmps47
  simp only [Req.cells] at hbb hx0 hx1
  simp only [Req.val]
  go_upto_block 0 with fail
  generalize World.alloc _ _ = W at hbb hx0 hx1 ⊢
  have c0 : ∀ j, W.cell? ⟨w.heap.size, j, none⟩ = (#[.int .i64 a.server, .int .i64 a.seq, .bool a.cancel, .int .i64 a.student, .int .i64 a.term, .string a.code, .string a.give, .int .i64 a.priority, .int .i64 a.day] : Array Value)[j]? := fun j => Lib.cell_of_heap hx0 j
  have c1 : ∀ j, W.cell? ⟨w.heap.size + 1, j, none⟩ = (#[.int .i64 b.server, .int .i64 b.seq, .bool b.cancel, .int .i64 b.student, .int .i64 b.term, .string b.code, .string b.give, .int .i64 b.priority, .int .i64 b.day] : Array Value)[j]? := fun j => Lib.cell_of_heap hx1 j
  clear hx0 hx1
  generalize hp : (a.priority != b.priority) = p at HF
  generalize hd : (a.day != b.day) = d at HF
  generalize hs : (a.server != b.server) = s at HF
  have q1 : decide (a.priority > b.priority) = decide (b.priority < a.priority) := rfl
  cases p
  · cases d
    · cases s
      · go_wp2_with fail
        go_ret
        exact ⟨ret_bool (by rw [HF.out]; rfl), hbb⟩
      · go_wp2_with fail
        go_ret
        exact ⟨ret_bool (by rw [HF.out]; rfl), hbb⟩
    · go_wp2_with fail
      go_ret
      exact ⟨ret_bool (by rw [HF.out]; rfl), hbb⟩
  · go_wp2_with fail
    go_ret
    exact ⟨ret_bool (by rw [HF.out]; rfl), hbb⟩
end Go.Proofs.YtjcogpalmgcpbaaGreat
/- Regions in which rows are appended to, a struct is laid and written, and calls are made, in any order: what each operation leaves. -/
namespace Go.Proofs.YtjcogpalmgcpbaaGreat
open Go Go.Proofs Go.RowKit Go.Maps Go.Sort Go.Lib

theorem reqT : RowT Tryz.prog encR 9 41 29 where
  len _ := rfl
  one r u hu := by
    simp [encR, Req.cells] at hu
    rcases hu with rfl | rfl | rfl | rfl | rfl | rfl | rfl | rfl | rfl <;> rfl
  pos := by decide
  und := Tryz.underlying29
  info := by
    obtain ⟨i0, hi, h1, h2, h3⟩ := info_parts req_info
    exact ⟨i0, _, hi, h1, h2, rfl, by omega⟩
/-- Block b, from B on, holds o. -/
def Laid (B : Nat) (w : World) (f : Nat → Value) (o : Obj) (u : Value) : Prop := ∃ b, u = f b ∧ B ≤ b ∧ w.heap[b]? = some o
theorem ReqsIn.row {w : World} {v : Value} {L : List Req} (h : ReqsIn w v L) : RowIn encR w v L := by
  rcases h with ⟨rfl, rfl⟩ | ⟨b, o, c, rfl, h2, h3, h4⟩
  · exact RowIn.nil _ _
  · exact ⟨_, c, rfl, h2, fun e => (by cases e), fun _ => ⟨b, o, rfl, h3, h4⟩⟩
section
variable {B : Nat} {w wn : World} {f : Nat → Value} {o : Obj} {u v : Value} {ro : Option Nat}
theorem Laid.grown (h : Laid B w f o u) (hg : w.grownBy wn ro) (hne : ∀ q, ro = some q → w.heap[q]? ≠ some o) : Laid B wn f o u := by
  obtain ⟨b, rfl, hB, hb⟩ := h
  exact ⟨b, rfl, hB, (hg.block b (lt_of_heap hb) (fun e => hne b e.symm hb)).trans hb⟩
theorem Laid.below (h : Laid B w f o u) (hb : RowKit.Below w.heap.size w wn) : Laid B wn f o u := h.grown (below_grows (row := none) hb) (fun _ e => by cases e)
theorem Laid.new (w : World) (f : Nat → Value) (cs : Array Value) (t : TypeId) (hB : B ≤ w.heap.size) : Laid B (w.alloc (.cells cs t)) f (.cells cs t (0, 0)) (f w.heap.size) := ⟨_, rfl, hB, heap_alloc_new w _⟩
theorem Laid.own {e : TypeId} {k : Nat} (h : Laid B w (fun b => .slice (some ⟨b, 0, none⟩) 0 0) (.cells #[] e (0, 0)) u) : w.ownsRow B e k u 0 [] := by
  obtain ⟨b, rfl, hB, hb⟩ := h
  exact ⟨by simp, .inr ⟨b, 0, #[], rfl, hB, hb, Nat.le_refl _, Nat.zero_le _, by simp, by simp⟩⟩
theorem Laid.row {α : Type} {enc : α → List Value} {e : TypeId} {cs : Array Value} {n : Nat} (h : Laid B w (fun b => .slice (some ⟨b, 0, none⟩) n n) (.cells cs e (0, 0)) u) (L : List α) (hcs : cs.toList = flatE enc L) (hn : L.length = n) : RowIn enc w u L := by
  subst hn
  obtain ⟨b, rfl, hB, hb⟩ := h
  refine ⟨_, _, rfl, Nat.le_refl _, fun hn => (by cases hn), fun _ => ⟨_, _, rfl, lt_of_heap hb, fun j u hj => ?_⟩⟩
  rw [Nat.zero_add, Lib.cell_of_heap hb]
  rw [← hcs] at hj
  simpa using hj
/-- The empty row's block, and another one. -/
theorem Laid.apart {e : TypeId} (h : Laid B w (fun b => .slice (some ⟨b, 0, none⟩) 0 0) (.cells #[] e (0, 0)) u) (hne : o ≠ .cells #[] e (0, 0)) : ∀ q, u.ownBlock = some q → w.heap[q]? ≠ some o := by
  obtain ⟨b, rfl, hB, hb⟩ := h
  intro q hq
  obtain rfl := Option.some.inj hq
  rw [hb]
  exact fun e => hne (Option.some.inj e).symm
theorem own_apart {base k n : Nat} {e t : TypeId} {xs : List Value} {cs : Array Value} (h : w.ownsRow base e k v n xs) (hne : t ≠ e) : ∀ q, v.ownBlock = some q → w.heap[q]? ≠ some (.cells cs t (0, 0)) := by
  rcases h.2 with ⟨rfl, _⟩ | ⟨g, cap, cur, rfl, _, hg, _⟩
  · intro q hq; simp [Value.ownBlock] at hq
  · intro q hq
    obtain rfl : g = q := by simpa [Value.ownBlock] using hq
    rw [hg]
    intro e
    injection e with e
    injection e with _ e
    exact hne e.symm
theorem own_apart' {base k n b : Nat} {e t : TypeId} {xs : List Value} {cs : Array Value} (h : w.ownsRow base e k v n xs) (hne : t ≠ e) (hb : w.heap[b]? = some (.cells cs t (0, 0))) : v.ownBlock = none ∨ v.ownBlock ≠ some b := .inr fun e => own_apart h hne b e hb
theorem own_below {base k n : Nat} {e : TypeId} {xs : List Value} (h : w.ownsRow base e k v n xs) (hb : RowKit.Below w.heap.size w wn) : wn.ownsRow base e k v n xs := h.kept (row := none) (below_grows hb) (by cases v.ownBlock <;> simp)
theorem setRow_grown {b : Nat} {old : Array Value} {t : TypeId} {fz : Nat × Nat} (_h : w.heap[b]? = some (.cells old t fz)) (cs : Array Value) : w.grownBy (w.setRow b cs) (some b) :=
  ⟨rfl, rfl, rfl, by simp [World.setRow], fun k _ hk => by
    have : k ≠ b := fun e => hk (by rw [e])
    simp [World.setRow, Array.getElem?_modify, Ne.symm this]⟩
/-- Rows of seats, and a block that holds no seat. -/
def NoInt (w : World) (b : Nat) : Prop := ∀ i n, w.cell? ⟨b, i, none⟩ ≠ some (.int .i64 n)
theorem NoInt.deal {b : Nat} {p q : Option Addr} {n m c e : Nat} {t : TypeId} (h : w.heap[b]? = some (.cells #[.slice p n c, .slice q m e] t (0, 0))) : NoInt w b := fun i n => by
  rw [Lib.cell_of_heap h]
  match i with
  | 0 => simp
  | 1 => simp
  | i + 2 => simp
theorem RowIn.grownSeat {L : List Seat} (h : RowIn Seat.cells w v L) (hg : w.grownBy wn ro) (hne : ∀ q, ro = some q → NoInt w q) : RowIn Seat.cells wn v L := by
  obtain ⟨p, c, rfl, hc, hz, hr⟩ := h
  refine ⟨p, c, rfl, hc, hz, fun hl => ?_⟩
  obtain ⟨b, o, rfl, hb, hx⟩ := hr hl
  have hd : some b ≠ ro := fun e => by
    obtain ⟨x, L', rfl⟩ := List.exists_cons_of_ne_nil (List.ne_nil_of_length_pos hl)
    exact hne b e.symm (o + 0) x.student (hx 0 _ rfl)
  exact ⟨b, o, rfl, Nat.lt_of_lt_of_le hb hg.size, fun j u hj => hg.cell (hx j u hj) hd⟩
theorem DealIn.grown {d : Deal} (h : DealIn w v d) (hg : w.grownBy wn ro) (hne : ∀ q, ro = some q → NoInt w q) : DealIn wn v d := by
  obtain ⟨⟨p, c, q, e, h1, h2, h3⟩, h4, h5⟩ := h
  exact ⟨⟨p, c, q, e, h1, h2.grownSeat hg hne, h3.grownSeat hg hne⟩, h4, h5⟩
theorem draw_apart {d n c : Nat} {A : Option Addr} {t : TypeId} {cs : Array Value} (h : DrawS d A n c w) (ht : t ≠ 75) : ∀ q, some d = some q → w.heap[q]? ≠ some (.cells cs t (0, 0)) := by
  rintro q hq
  obtain rfl := Option.some.inj hq
  obtain ⟨k, _, hda⟩ := h
  unfold DrawAt at hda
  rw [hda]
  intro e
  injection e with e
  injection e with _ e
  exact ht e.symm
end
section
variable {P : Program} {ops : Array Oper} {Q : Exit → Act → World → Prop} {S : World → Prop}
theorem par_append {α : Type} {enc : α → List Value} {k : Nat} {e t : TypeId} (R : RowT P enc k e t) {i : Nat} {K : Act → World → Prop} {a : Act} {w : World} (oi : Oper) (hi : ops[i]? = some oi) (hw : Region.wanted oi (yielded ops a.tmps) = true) (s x : Operand) (ho : oi.op = .call { callee := .builtin .append, args := #[s, x], argTypes := #[t, t] })
    (base : Nat) (v xv : Value) (X Y : List α) (hs : a.eval s = v) (hxv : a.eval x = xv) (hown : w.ownsRow base e k v X.length (flatE enc X)) (hx : RowIn enc w xv Y) (hl : X.length + Y.length ≤ 1000000) (hb : base ≤ w.heap.size)
    (h : ∀ v' w', AppT enc k e w base v X Y v' w' → K (a.put oi.dst v') w') : wpOp P ops Q i K a w :=
  par_op oi hi hw (wp_append_row R s x ho base v xv X Y hs hxv hown hx hl hb h)
theorem par_store_row {i : Nat} {K : Act → World → Prop} {a : Act} {w : World} (oi : Oper) (hi : ops[i]? = some oi) (hw : Region.wanted oi (yielded ops a.tmps) = true) (ty : TypeId) (x y : Operand) (ho : oi.op = .store ty x y)
    (g : Nat) (cells : Array Value) (hx : a.eval x = .pointer (some ⟨g, 0, none⟩)) (hy : a.eval y = .agg cells) (t : TypeId) (old : Array Value) (hg : w.heap[g]? = some (.cells old t (0, 0))) (hi2 : (P.info? ty).map (·.size) = some cells.size)
    (hold : old.size = cells.size) (h1 : cells.all (·.oneCell') = true) (h : K (a.put oi.dst undef) (w.setRow g cells)) : wpOp P ops Q i K a w :=
  par_op oi hi hw (wp_store_row ty x y ho g cells hx hy t old hg hi2 hold h1 h)
theorem par_take_row {i : Nat} {σ : List Nat} {a : Act} {K : Act → Prop} (oi : Oper) (hi : ops[i]? = some oi) (hw : Region.wanted oi (yielded ops a.tmps) = true) (ty : TypeId) (x : Operand) (ho : oi.op = .load ty x)
    (b o : Nat) (hx : a.eval x = .pointer (some ⟨b, o, none⟩)) (cs : List Value) (d : TypeDesc) (hS : ∀ w, S w → w.rangeAt b o cs) (hu : P.underlying ty = some d) (hd : d.isRow = true) (hi2 : (P.info? ty).map (·.size) = some cs.length)
    (h : wpTakes P ops S σ (a.put oi.dst (.agg cs.toArray)) K) : wpTakes P ops S (i :: σ) a K := ⟨oi, _, hi, yieldsIf_load_mid hw ty x ho b o hx cs d hS hu hd hi2, h⟩
theorem par_skip {i : Nat} {σ : List Nat} {a : Act} {K : Act → Prop} (oi : Oper) (hi : ops[i]? = some oi) (hw : Region.wanted oi (yielded ops a.tmps) = false) (h : wpTakes P ops S σ (a.put oi.dst undef) K) : wpTakes P ops S (i :: σ) a K := ⟨oi, undef, hi, .inr ⟨hw, rfl⟩, h⟩
end
end Go.Proofs.YtjcogpalmgcpbaaGreat
/- The reference of layer 28: Order. -/
namespace Go.Proofs.YtjcogpalmgcpbaaGreat
open Go Go.Proofs Go.RowKit Go.Maps Go.Sort Go.Lib

def reqO : Req := ⟨0, 0, false, 0, 0, ⟨#[]⟩, ⟨#[]⟩, 0, 0⟩
def elR (X : List Req) (i : Nat) : Req := (X[i]?).getD reqO
theorem elR_get {X : List Req} {i : Nat} (h : i < X.length) : X[i]? = some (elR X i) := by
  unfold elR
  rw [List.getElem?_eq_getElem h]; rfl
def swapD (X : List Req) (i : Nat) : List Req := (X.set (i + 1) (elR X i)).set i (elR X (i + 1))
/-- What stands at i goes down. -/
def insD : List Req → Nat → List Req
  | X, 0 => X
  | X, i + 1 => if befR (elR X (i + 1)) (elR X i) = true then insD (swapD X i) i else X
def ordP (l : List Req) (k : Nat) : List Req := (List.range k).foldl insD l
theorem ordP_succ (l : List Req) (k : Nat) : ordP l (k + 1) = insD (ordP l k) k := by unfold ordP; rw [List.range_succ, List.foldl_append]; rfl
theorem swapD_len (X : List Req) (i : Nat) : (swapD X i).length = X.length := by unfold swapD; rw [List.length_set, List.length_set]
theorem insD_len : ∀ (i : Nat) (X : List Req), (insD X i).length = X.length
  | 0, X => rfl
  | i + 1, X => by
    unfold insD
    split
    · rw [insD_len i, swapD_len]
    · rfl
theorem ordP_len (l : List Req) : ∀ k, (ordP l k).length = l.length
  | 0 => rfl
  | k + 1 => by rw [ordP_succ, insD_len, ordP_len l k]

/-- A row of requests under way. -/
structure OrdSt (W0 : World) (B g : Nat) (X : List Req) (w : World) : Prop where
  below : RowKit.Below B W0 w
  low : B ≤ g
  lt : g < w.heap.size
  row : ∀ i r, X[i]? = some r → w.rangeAt g (i * 9) r.cells.toList
  there : w.there g 0 (X.length * 9)
theorem OrdSt.next {W0 w w' : World} {B g : Nat} {X : List Req} (h : OrdSt W0 B g X w) (hb : RowKit.Below w.heap.size w w') (hB : B ≤ w.heap.size) : OrdSt W0 B g X w' where
  below := h.below.trans (hb.mono hB)
  low := h.low
  lt := Nat.lt_of_lt_of_le h.lt hb.size
  row i r hr := fun j u hu => by rw [hb.cell (p := ⟨g, i * 9 + j, none⟩) h.lt]; exact h.row i r hr j u hu
  there := fun j hj => by
    have e := hb.cell (p := ⟨g, 0 + j, none⟩) h.lt
    have f : w'.frozen? ⟨g, 0 + j, none⟩ = w.frozen? ⟨g, 0 + j, none⟩ := hb.frozen (p := ⟨g, 0 + j, none⟩) h.lt
    rw [e, f]
    exact h.there j hj
theorem req_cells_len (r : Req) : r.cells.toList.length = 9 := rfl
theorem grown_cells (g : Nat) : ∀ (vs : List Value) (o : Nat) (w : World), w.grownBy (w.setCells g o vs) (some g)
  | [], _, w => below_grows (Below.refl _ w)
  | v :: vs, o, w => grows_trans (Only.setCell w g o v 0) (grown_cells g vs (o + 1) (w.setCell ⟨g, o, none⟩ v))
theorem OrdSt.set {W0 w : World} {B g : Nat} {X : List Req} (h : OrdSt W0 B g X w) {p : Nat} (hB : B ≤ w.heap.size) (hp : p < X.length) (r : Req) : OrdSt W0 B g (X.set p r) (w.setCells g (p * 9) r.cells.toList) := by
  have ht : w.there g (p * 9) r.cells.toList.length := fun j hj => by
    rw [req_cells_len] at hj
    have := h.there (p * 9 + j) (by omega)
    rwa [Nat.zero_add] at this
  have hg := grown_cells g r.cells.toList (p * 9) w
  refine ⟨?_, h.low, Nat.lt_of_lt_of_le h.lt hg.size, fun i x hx => ?_, fun j hj => ?_⟩
  · exact h.below.grown hg hB (fun q hq => by obtain rfl := Option.some.inj hq; exact h.low)
  · by_cases hip : i = p
    · subst hip
      rw [List.getElem?_set_self hp] at hx
      obtain rfl := Option.some.inj hx
      exact World.rangeAt_setCells_same w g (i * 9) _ ht
    · rw [List.getElem?_set_ne (Ne.symm hip)] at hx
      refine World.rangeAt_setCells_apart (h.row i x hx) g (p * 9) _ (.inr ?_)
      rw [req_cells_len, req_cells_len]
      omega
  · rw [List.length_set] at hj
    refine ⟨?_, ?_⟩
    · by_cases hin : p * 9 ≤ j ∧ j < p * 9 + 9
      · have e := World.cell?_setCells_in g r.cells.toList (p * 9) w (fun i hi => (ht i hi).1) (j - p * 9) (by rw [req_cells_len]; omega)
        rw [show 0 + j = p * 9 + (j - p * 9) by omega, e]
        rfl
      · rw [World.cell?_setCells_out g r.cells.toList (p * 9) w ⟨g, 0 + j, none⟩ (fun _ _ => by
          rw [req_cells_len]
          show 0 + j < p * 9 ∨ p * 9 + 9 ≤ 0 + j
          omega)]
        exact (h.there j hj).1
    · rw [World.frozen?_setCells]
      exact (h.there j hj).2
/-- The row, read back. -/
theorem reqs_of {w : World} {g : Nat} : ∀ (X : List Req) (o : Nat), (∀ i r, X[i]? = some r → w.rangeAt g (o + i * 9) r.cells.toList) → ∀ j u, (reqCells X)[j]? = some u → w.cell? ⟨g, o + j, none⟩ = some u
  | [], _, _, j, u, hu => by simp [reqCells] at hu
  | r :: X, o, h, j, u, hu => by
    rw [show reqCells (r :: X) = r.cells.toList ++ reqCells X from rfl] at hu
    by_cases hj : j < 9
    · rw [List.getElem?_append_left (by rw [req_cells_len]; exact hj)] at hu
      have := h 0 r rfl j u hu
      rwa [Nat.zero_mul, Nat.add_zero] at this
    · rw [List.getElem?_append_right (by rw [req_cells_len]; omega), req_cells_len] at hu
      have := reqs_of X (o + 9) (fun i x hx => by
        have := h (i + 1) x hx
        rwa [show o + (i + 1) * 9 = o + 9 + i * 9 by omega] at this) (j - 9) u hu
      rwa [show o + 9 + (j - 9) = o + j by omega] at this
theorem OrdSt.reqs {W0 w : World} {B g c : Nat} {X : List Req} (h : OrdSt W0 B g X w) (hc : X.length ≤ c) : ReqsIn w (.slice (some ⟨g, 0, none⟩) X.length c) X :=
  .inr ⟨g, 0, c, rfl, hc, h.lt, fun j u hu => reqs_of X 0 (fun i r hr => by rw [Nat.zero_add]; exact h.row i r hr) j u hu⟩
/-- A row of the call's own. -/
theorem OrdSt.own {W0 w : World} {B g c : Nat} {X : List Req} (hb : RowKit.Below B W0 w) (h : w.ownsRow B 41 9 (.slice (some ⟨g, 0, none⟩) X.length c) X.length (reqCells X)) : OrdSt W0 B g X w := by
  have hr := reqsIn_own h
  have hlo := own_lo h (q := g) rfl
  have hx : ∃ cur, w.heap[g]? = some (.cells cur 41 (0, 0)) ∧ X.length * 9 ≤ cur.size := by
    rcases h.2 with ⟨e, _⟩ | ⟨g', cap, cur, e, _, hg, h2, _, h4, _⟩
    · cases e
    · injection e with e1 _ e3
      injection e1 with e1
      injection e1 with e1
      subst e1
      exact ⟨cur, hg, by rw [h4]; exact Nat.mul_le_mul h2 (Nat.le_refl 9)⟩
  obtain ⟨cur, hg, hsz⟩ := hx
  refine ⟨hb, hlo.1, hlo.2, fun i r hi => ?_, fun j hj => ?_⟩
  · obtain ⟨b, o, c', e, _, _, hx⟩ := hr.at_ (List.length_pos_of_mem (List.mem_of_getElem? hi))
    injection e with e1
    injection e1 with e1
    injection e1 with e1 e2
    subst e1 e2
    have := hx i r hi
    rw [Nat.zero_add] at this
    intro j u hu
    exact this j u (by simpa using hu)
  · refine ⟨?_, Lib.frozen_of_heap hg _⟩
    rw [Lib.cell_of_heap hg, Nat.zero_add, Array.getElem?_eq_getElem (by omega)]
    rfl
end Go.Proofs.YtjcogpalmgcpbaaGreat
namespace Go.Proofs.YtjcogpalmgcpbaaGreat
open Go Go.Proofs Go.RowKit Go.Maps Go.Sort Go.Lib

theorem there_at {W0 w : World} {B g : Nat} {X : List Req} (h : OrdSt W0 B g X w) {p : Nat} (hp : p < X.length) : w.there g (p * 9) 9 := fun j hj => by
  have := h.there (p * 9 + j) (by omega)
  rwa [Nat.zero_add] at this
theorem req_all (r : Req) : r.cells.all (·.oneCell') = true := by simp [Req.cells, Value.oneCell']
theorem run_load_req {oi : Oper} (a : Act) (x : Operand) (ho : oi.op = .load 41 x) (w : World) (g o : Nat) (r : Req) (hr : w.rangeAt g o r.cells.toList) (hx : a.eval x = .pointer (some ⟨g, o, none⟩)) : (execOp a.eval oi).run Tryz.prog w = .ok (.value r.val) w := by
  have hl : (Instr.loadAt 41 (.pointer (some ⟨g, o, none⟩))).run Tryz.prog w = .ok r.val w := run_loadAt_mid w g o 41 r.cells.toList _ hr Tryz.underlying41 rfl (by kernel_rfl)
  unfold execOp
  simp only [ho, hx, Sem.run_bind, Sem.run_pure, hl, Result.andThen_ok]

set_option maxHeartbeats 16000000 in
set_option maxRecDepth 100000 in
theorem ord_r8 {s0 s1 s2 s4 s6 s7 s8 s9 s10 s11 s12 s13 s14 s15 s16 s17 s18 s19 s20 s21 s22 s23 s24 s25 s26 s27 s28 s29 s30 s31 s32 s33 s34 s35 s36 s37 s38 s39 s40 s41 s42 s43 s44 s45 s46 s47 s48 : Value} (W0 : World) (B g n c i : Nat) (X : List Req) (W : World) (Q : Exit → Act → World → Prop) (h : OrdSt W0 B g X W) (hB : B ≤ W.heap.size) (hn : X.length = n) (hi : i + 1 < n) (h1 : n ≤ 1000000) (_hnc : n ≤ c)
    (hQ : ∀ (u41 u45 u46 u47 : Value)  (wx : World), OrdSt W0 B g (swapD X i) wx → Q .normal ⟨List.toArray (s0 :: s1 :: s2 :: .slice (some ⟨g, 0, none⟩) n c :: s4 :: .int .i64 ((i : Int) + 1) :: s6 :: s7 :: s8 :: s9 :: s10 :: s11 :: s12 :: s13 :: s14 :: s15 :: s16 :: s17 :: s18 :: s19 :: s20 :: s21 :: s22 :: s23 :: s24 :: s25 :: s26 :: s27 :: s28 :: s29 :: s30 :: s31 :: .slice (some ⟨g, 0, none⟩) n c :: .int .i64 ((i : Int) + 1) :: .slice (some ⟨g, 0, none⟩) n c :: .int .i64 ((i : Int) + 1) :: .int .i64 (i : Int) :: .slice (some ⟨g, 0, none⟩) n c :: .int .i64 ((i : Int) + 1) :: .int .i64 (i : Int) :: .pointer (some ⟨g, i * 9, none⟩) :: u41 :: .slice (some ⟨g, 0, none⟩) n c :: .int .i64 ((i : Int) + 1) :: .pointer (some ⟨g, (i + 1) * 9, none⟩) :: u45 :: u46 :: u47 :: s48 :: []), []⟩ wx) :
    (regionOf Tryz.f29 8).wp Tryz.prog Q ⟨List.toArray (s0 :: s1 :: s2 :: .slice (some ⟨g, 0, none⟩) n c :: s4 :: .int .i64 ((i : Int) + 1) :: s6 :: s7 :: s8 :: s9 :: s10 :: s11 :: s12 :: s13 :: s14 :: s15 :: s16 :: s17 :: s18 :: s19 :: s20 :: s21 :: s22 :: s23 :: s24 :: s25 :: s26 :: s27 :: s28 :: s29 :: s30 :: s31 :: s32 :: s33 :: s34 :: s35 :: s36 :: s37 :: s38 :: s39 :: s40 :: s41 :: s42 :: s43 :: s44 :: s45 :: s46 :: s47 :: s48 :: []), []⟩ W := by
  refine of_onlyN (K := Q .normal) ?_ (fun _ _ h => h)
  generalize Q .normal = K at hQ ⊢
  have HQ := Lib.hid hQ; clear hQ
  conv => arg 2; whnf
  have hw1 : IntKind.i64.wrap (i : Int) = (i : Int) := IntWalk.i64_in _ (by omega)
  have hng : ¬ ((i : Int) + 1 < 0) := by omega
  have hlt1 : (i : Int) + 1 < (n : Int) := by omega
  have hlt0 : (i : Int) < (n : Int) := by omega
  have hS0 : B ≤ W.drew.heap.size := hB
  have hN0 : OrdSt W0 B g X W.drew := h.next (Below.refl _ _).drew hB
  refine wp_region_par (S := fun w => B ≤ w.heap.size) (I := fun L' a w => ∃ u41 u45 u46 u47 : Value, a = ⟨List.toArray (s0 :: s1 :: s2 :: .slice (some ⟨g, 0, none⟩) n c :: s4 :: .int .i64 ((i : Int) + 1) :: s6 :: s7 :: s8 :: s9 :: s10 :: s11 :: s12 :: s13 :: s14 :: s15 :: s16 :: s17 :: s18 :: s19 :: s20 :: s21 :: s22 :: s23 :: s24 :: s25 :: s26 :: s27 :: s28 :: s29 :: s30 :: s31 :: .slice (some ⟨g, 0, none⟩) n c :: .int .i64 ((i : Int) + 1) :: .slice (some ⟨g, 0, none⟩) n c :: .int .i64 ((i : Int) + 1) :: .int .i64 (i : Int) :: .slice (some ⟨g, 0, none⟩) n c :: .int .i64 ((i : Int) + 1) :: .int .i64 (i : Int) :: .pointer (some ⟨g, i * 9, none⟩) :: u41 :: .slice (some ⟨g, 0, none⟩) n c :: .int .i64 ((i : Int) + 1) :: .pointer (some ⟨g, (i + 1) * 9, none⟩) :: u45 :: u46 :: u47 :: s48 :: []), []⟩ ∧ (B ≤ w.heap.size) ∧ (L'.getD 9 false = true → u41 = (elR X i).val) ∧ (L'.getD 13 false = true → u45 = (elR X (i + 1)).val) ∧ (L'.getD 14 false = true → u46 = .pointer (some ⟨g, (i + 1) * 9, none⟩)) ∧ (L'.getD 15 false = true → L'.getD 17 false = false → OrdSt W0 B g (X.set (i + 1) (elR X i)) w) ∧ (L'.getD 16 false = true → u47 = .pointer (some ⟨g, i * 9, none⟩)) ∧ (L'.getD 17 false = true → OrdSt W0 B g (swapD X i) w) ∧ (L'.getD 15 false = false → OrdSt W0 B g X w)) (pre := fun i L' => L'.size == 18 && ((i == 9 && !L'.getD 9 false && !L'.getD 15 false && !L'.getD 17 false) || (i == 13 && !L'.getD 13 false && !L'.getD 15 false && !L'.getD 17 false) || (i == 14 && L'.getD 9 false && L'.getD 13 false && !L'.getD 14 false && !L'.getD 15 false && !L'.getD 17 false) || (i == 15 && L'.getD 9 false && L'.getD 13 false && L'.getD 14 false && !L'.getD 15 false && !L'.getD 17 false) || (i == 16 && L'.getD 15 false && !L'.getD 16 false && !L'.getD 17 false) || (i == 17 && L'.getD 9 false && L'.getD 13 false && L'.getD 15 false && L'.getD 16 false && !L'.getD 17 false))) (fin := fun L' => L'.getD 17 false) [0, 1, 2, 3, 4, 5, 6, 7, 8, 10, 11, 12] 6 (by kernel_rfl) (by kernel_rfl) (by kernel_rfl) (by kernel_rfl) (by decide) hB ?_ ?_ ?_
  · intro i L' a w hp hI
    obtain ⟨u41, u45, u46, u47, rfl, hSw, hP9, hP13, hP14, hP15, hP16, hP17, hN⟩ := hI
    simp only [Bool.and_eq_true, Bool.or_eq_true, beq_iff_eq, Bool.not_eq_true'] at hp
    obtain ⟨hsz, hp⟩ := hp
    rcases hp with (((((⟨⟨⟨rfl, gn9⟩, gn15⟩, gn17⟩ | ⟨⟨⟨rfl, gn13⟩, gn15⟩, gn17⟩) | ⟨⟨⟨⟨⟨rfl, gd9⟩, gd13⟩, gn14⟩, gn15⟩, gn17⟩) | ⟨⟨⟨⟨⟨rfl, gd9⟩, gd13⟩, gd14⟩, gn15⟩, gn17⟩) | ⟨⟨⟨rfl, gd15⟩, gn16⟩, gn17⟩) | ⟨⟨⟨⟨⟨rfl, gd9⟩, gd13⟩, gd15⟩, gd16⟩, gn17⟩)
    · have g9 : (L'.setIfInBounds 9 true).getD 9 false = true := by rw [up_set, if_pos ⟨rfl, by omega⟩]
      have g13 : (L'.setIfInBounds 9 true).getD 13 false = L'.getD 13 false := by rw [up_set, if_neg (by omega)]
      have g14 : (L'.setIfInBounds 9 true).getD 14 false = L'.getD 14 false := by rw [up_set, if_neg (by omega)]
      have g15 : (L'.setIfInBounds 9 true).getD 15 false = L'.getD 15 false := by rw [up_set, if_neg (by omega)]
      have g16 : (L'.setIfInBounds 9 true).getD 16 false = L'.getD 16 false := by rw [up_set, if_neg (by omega)]
      have g17 : (L'.setIfInBounds 9 true).getD 17 false = L'.getD 17 false := by rw [up_set, if_neg (by omega)]
      have hSn := hSw
      refine par_run ⟨some 41, _, _, _, _, _⟩ (elR X i).val w rfl (by rfl) (run_load_req _ (.tmp 40) (by rfl) w g _ _ ((hN gn15).row i _ (elR_get (by omega))) (by rfl)) ?_
      exact ⟨hSn, ((elR X i).val), (u45), (u46), (u47), by simp only [Act.put, List.setIfInBounds_toArray, List.set_cons_zero, List.set_cons_succ], hSn, fun _ => rfl, by rw [g13]; exact hP13, by rw [g14]; exact hP14, by rw [g15, g17]; exact fun e e2 => absurd (e.symm.trans gn15) (by decide), by rw [g16]; exact hP16, by rw [g17]; exact fun e => absurd (e.symm.trans gn17) (by decide), by rw [g15]; exact hN⟩
    · have g9 : (L'.setIfInBounds 13 true).getD 9 false = L'.getD 9 false := by rw [up_set, if_neg (by omega)]
      have g13 : (L'.setIfInBounds 13 true).getD 13 false = true := by rw [up_set, if_pos ⟨rfl, by omega⟩]
      have g14 : (L'.setIfInBounds 13 true).getD 14 false = L'.getD 14 false := by rw [up_set, if_neg (by omega)]
      have g15 : (L'.setIfInBounds 13 true).getD 15 false = L'.getD 15 false := by rw [up_set, if_neg (by omega)]
      have g16 : (L'.setIfInBounds 13 true).getD 16 false = L'.getD 16 false := by rw [up_set, if_neg (by omega)]
      have g17 : (L'.setIfInBounds 13 true).getD 17 false = L'.getD 17 false := by rw [up_set, if_neg (by omega)]
      have hSn := hSw
      refine par_run ⟨some 45, _, _, _, _, _⟩ (elR X (i + 1)).val w rfl (by rfl) (run_load_req _ (.tmp 44) (by rfl) w g _ _ ((hN gn15).row (i + 1) _ (elR_get (by omega))) (by rfl)) ?_
      exact ⟨hSn, (u41), ((elR X (i + 1)).val), (u46), (u47), by simp only [Act.put, List.setIfInBounds_toArray, List.set_cons_zero, List.set_cons_succ], hSn, by rw [g9]; exact hP9, fun _ => rfl, by rw [g14]; exact hP14, by rw [g15, g17]; exact fun e e2 => absurd (e.symm.trans gn15) (by decide), by rw [g16]; exact hP16, by rw [g17]; exact fun e => absurd (e.symm.trans gn17) (by decide), by rw [g15]; exact hN⟩
    · have g9 : (L'.setIfInBounds 14 true).getD 9 false = L'.getD 9 false := by rw [up_set, if_neg (by omega)]
      have g13 : (L'.setIfInBounds 14 true).getD 13 false = L'.getD 13 false := by rw [up_set, if_neg (by omega)]
      have g14 : (L'.setIfInBounds 14 true).getD 14 false = true := by rw [up_set, if_pos ⟨rfl, by omega⟩]
      have g15 : (L'.setIfInBounds 14 true).getD 15 false = L'.getD 15 false := by rw [up_set, if_neg (by omega)]
      have g16 : (L'.setIfInBounds 14 true).getD 16 false = L'.getD 16 false := by rw [up_set, if_neg (by omega)]
      have g17 : (L'.setIfInBounds 14 true).getD 17 false = L'.getD 17 false := by rw [up_set, if_neg (by omega)]
      have hD9 := hP9 gd9
      have hD13 := hP13 gd13
      have hSn := hSw
      refine par_run ⟨some 46, _, _, _, _, _⟩ (.pointer (some ⟨g, (i + 1) * 9, none⟩)) w rfl (by rfl) (by go_simp) ?_
      exact ⟨hSn, (u41), (u45), (.pointer (some ⟨g, (i + 1) * 9, none⟩)), (u47), by simp only [Act.put, List.setIfInBounds_toArray, List.set_cons_zero, List.set_cons_succ], hSn, by rw [g9]; exact hP9, by rw [g13]; exact hP13, fun _ => rfl, by rw [g15, g17]; exact fun e e2 => absurd (e.symm.trans gn15) (by decide), by rw [g16]; exact hP16, by rw [g17]; exact fun e => absurd (e.symm.trans gn17) (by decide), by rw [g15]; exact hN⟩
    · have g9 : (L'.setIfInBounds 15 true).getD 9 false = L'.getD 9 false := by rw [up_set, if_neg (by omega)]
      have g13 : (L'.setIfInBounds 15 true).getD 13 false = L'.getD 13 false := by rw [up_set, if_neg (by omega)]
      have g14 : (L'.setIfInBounds 15 true).getD 14 false = L'.getD 14 false := by rw [up_set, if_neg (by omega)]
      have g15 : (L'.setIfInBounds 15 true).getD 15 false = true := by rw [up_set, if_pos ⟨rfl, by omega⟩]
      have g16 : (L'.setIfInBounds 15 true).getD 16 false = L'.getD 16 false := by rw [up_set, if_neg (by omega)]
      have g17 : (L'.setIfInBounds 15 true).getD 17 false = L'.getD 17 false := by rw [up_set, if_neg (by omega)]
      have hD9 := hP9 gd9
      have hD13 := hP13 gd13
      have hD14 := hP14 gd14
      subst hD9
      subst hD14
      have hSn : B ≤ (w.setCells g ((i + 1) * 9) (elR X i).cells.toList).heap.size := Nat.le_trans hSw (grown_cells _ _ _ _).size
      refine par_op ⟨none, _, _, _, _, _⟩ rfl (by rfl) (wp_store_mid 41 (.tmp 46) (.tmp 41) (by rfl) g ((i + 1) * 9) (elR X i).cells (by rfl) (by rfl) (there_at (hN gn15) (by omega)) (by kernel_rfl) (req_all _) ?_)
      exact ⟨hSn, ((elR X i).val), (u45), (.pointer (some ⟨g, (i + 1) * 9, none⟩)), (u47), by simp only [Act.put], hSn, by rw [g9]; exact hP9, by rw [g13]; exact hP13, by rw [g14]; exact hP14, fun _ _ => (hN gn15).set hSw (by omega) (elR X i), by rw [g16]; exact hP16, by rw [g17]; exact fun e => absurd (e.symm.trans gn17) (by decide), by rw [g15]; exact fun e => absurd e (by decide)⟩
    · have g9 : (L'.setIfInBounds 16 true).getD 9 false = L'.getD 9 false := by rw [up_set, if_neg (by omega)]
      have g13 : (L'.setIfInBounds 16 true).getD 13 false = L'.getD 13 false := by rw [up_set, if_neg (by omega)]
      have g14 : (L'.setIfInBounds 16 true).getD 14 false = L'.getD 14 false := by rw [up_set, if_neg (by omega)]
      have g15 : (L'.setIfInBounds 16 true).getD 15 false = L'.getD 15 false := by rw [up_set, if_neg (by omega)]
      have g16 : (L'.setIfInBounds 16 true).getD 16 false = true := by rw [up_set, if_pos ⟨rfl, by omega⟩]
      have g17 : (L'.setIfInBounds 16 true).getD 17 false = L'.getD 17 false := by rw [up_set, if_neg (by omega)]
      have hD15 := hP15 gd15 gn17
      have hSn := hSw
      refine par_run ⟨some 47, _, _, _, _, _⟩ (.pointer (some ⟨g, i * 9, none⟩)) w rfl (by rfl) (by go_simp) ?_
      exact ⟨hSn, (u41), (u45), (u46), (.pointer (some ⟨g, i * 9, none⟩)), by simp only [Act.put, List.setIfInBounds_toArray, List.set_cons_zero, List.set_cons_succ], hSn, by rw [g9]; exact hP9, by rw [g13]; exact hP13, by rw [g14]; exact hP14, by rw [g15, g17]; exact hP15, fun _ => rfl, by rw [g17]; exact fun e => absurd (e.symm.trans gn17) (by decide), by rw [g15]; exact hN⟩
    · have g9 : (L'.setIfInBounds 17 true).getD 9 false = L'.getD 9 false := by rw [up_set, if_neg (by omega)]
      have g13 : (L'.setIfInBounds 17 true).getD 13 false = L'.getD 13 false := by rw [up_set, if_neg (by omega)]
      have g14 : (L'.setIfInBounds 17 true).getD 14 false = L'.getD 14 false := by rw [up_set, if_neg (by omega)]
      have g15 : (L'.setIfInBounds 17 true).getD 15 false = L'.getD 15 false := by rw [up_set, if_neg (by omega)]
      have g16 : (L'.setIfInBounds 17 true).getD 16 false = L'.getD 16 false := by rw [up_set, if_neg (by omega)]
      have g17 : (L'.setIfInBounds 17 true).getD 17 false = true := by rw [up_set, if_pos ⟨rfl, by omega⟩]
      have hD9 := hP9 gd9
      have hD13 := hP13 gd13
      have hD15 := hP15 gd15 gn17
      have hD16 := hP16 gd16
      subst hD13
      subst hD16
      have hSn : B ≤ (w.setCells g (i * 9) (elR X (i + 1)).cells.toList).heap.size := Nat.le_trans hSw (grown_cells _ _ _ _).size
      refine par_op ⟨none, _, _, _, _, _⟩ rfl (by rfl) (wp_store_mid 41 (.tmp 47) (.tmp 45) (by rfl) g (i * 9) (elR X (i + 1)).cells (by rfl) (by rfl) (there_at hD15 (by simp; omega)) (by kernel_rfl) (req_all _) ?_)
      exact ⟨hSn, (u41), ((elR X (i + 1)).val), (u46), (.pointer (some ⟨g, i * 9, none⟩)), by simp only [Act.put], hSn, by rw [g9]; exact hP9, by rw [g13]; exact hP13, by rw [g14]; exact hP14, by rw [g17]; exact fun _ e => absurd e (by decide), by rw [g16]; exact hP16, fun _ => hD15.set hSw (by simp; omega) (elR X (i + 1)), by rw [g15]; exact fun e => absurd (gd15.symm.trans e) (by decide)⟩
  · intro L' a w hp hI
    obtain ⟨u41, u45, u46, u47, rfl, hSw, hP9, hP13, hP14, hP15, hP16, hP17, hN⟩ := hI
    (try simp only [Bool.and_eq_true] at hp)
    have p17 := hp
    obtain hfin := hP17 p17
    exact HQ.out _ _ _ _ w hfin
  · refine par_take ⟨some 32, _, _, _, _, _⟩ (.slice (some ⟨g, 0, none⟩) n c) rfl (by rfl) ?_ ?_
    · intro w hSw; go_simp
    simp only [Act.put, List.setIfInBounds_toArray, List.set_cons_zero, List.set_cons_succ]
    refine par_take ⟨some 33, _, _, _, _, _⟩ (.int .i64 ((i : Int) + 1)) rfl (by rfl) ?_ ?_
    · intro w hSw; go_simp
    simp only [Act.put, List.setIfInBounds_toArray, List.set_cons_zero, List.set_cons_succ]
    refine par_take ⟨some 34, _, _, _, _, _⟩ (.slice (some ⟨g, 0, none⟩) n c) rfl (by rfl) ?_ ?_
    · intro w hSw; go_simp
    simp only [Act.put, List.setIfInBounds_toArray, List.set_cons_zero, List.set_cons_succ]
    refine par_take ⟨some 35, _, _, _, _, _⟩ (.int .i64 ((i : Int) + 1)) rfl (by rfl) ?_ ?_
    · intro w hSw; go_simp
    simp only [Act.put, List.setIfInBounds_toArray, List.set_cons_zero, List.set_cons_succ]
    refine par_take ⟨some 36, _, _, _, _, _⟩ (.int .i64 (i : Int)) rfl (by rfl) ?_ ?_
    · intro w hSw; go_simp
    simp only [Act.put, List.setIfInBounds_toArray, List.set_cons_zero, List.set_cons_succ]
    refine par_take ⟨some 37, _, _, _, _, _⟩ (.slice (some ⟨g, 0, none⟩) n c) rfl (by rfl) ?_ ?_
    · intro w hSw; go_simp
    simp only [Act.put, List.setIfInBounds_toArray, List.set_cons_zero, List.set_cons_succ]
    refine par_take ⟨some 38, _, _, _, _, _⟩ (.int .i64 ((i : Int) + 1)) rfl (by rfl) ?_ ?_
    · intro w hSw; go_simp
    simp only [Act.put, List.setIfInBounds_toArray, List.set_cons_zero, List.set_cons_succ]
    refine par_take ⟨some 39, _, _, _, _, _⟩ (.int .i64 (i : Int)) rfl (by rfl) ?_ ?_
    · intro w hSw; go_simp
    simp only [Act.put, List.setIfInBounds_toArray, List.set_cons_zero, List.set_cons_succ]
    refine par_take ⟨some 40, _, _, _, _, _⟩ (.pointer (some ⟨g, i * 9, none⟩)) rfl (by rfl) ?_ ?_
    · intro w hSw; go_simp
    simp only [Act.put, List.setIfInBounds_toArray, List.set_cons_zero, List.set_cons_succ]
    refine par_take ⟨some 42, _, _, _, _, _⟩ (.slice (some ⟨g, 0, none⟩) n c) rfl (by rfl) ?_ ?_
    · intro w hSw; go_simp
    simp only [Act.put, List.setIfInBounds_toArray, List.set_cons_zero, List.set_cons_succ]
    refine par_take ⟨some 43, _, _, _, _, _⟩ (.int .i64 ((i : Int) + 1)) rfl (by rfl) ?_ ?_
    · intro w hSw; go_simp
    simp only [Act.put, List.setIfInBounds_toArray, List.set_cons_zero, List.set_cons_succ]
    refine par_take ⟨some 44, _, _, _, _, _⟩ (.pointer (some ⟨g, (i + 1) * 9, none⟩)) rfl (by rfl) ?_ ?_
    · intro w hSw; go_simp
    simp only [Act.put, List.setIfInBounds_toArray, List.set_cons_zero, List.set_cons_succ]
    exact ⟨_, _, _, _, rfl, hB, (fun e => absurd e (by decide +kernel)), (fun e => absurd e (by decide +kernel)), (fun e => absurd e (by decide +kernel)), (fun e => absurd e (by decide +kernel)), (fun e => absurd e (by decide +kernel)), (fun e => absurd e (by decide +kernel)), (fun _ => hN0)⟩
end Go.Proofs.YtjcogpalmgcpbaaGreat
