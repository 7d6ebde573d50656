/- swap: extend and circles: they yield the circles, one behind the other, until a round says no. -/
import Derived.Test.YtjcogpalmgcpbaaGreatGeba
import Derived.RangeFuncOwn
import Derived.RangeFuncCalls
import Derived.RangeFuncLeaves
import Derived.OwnWalkIn
import Derived.TacticsInMore
/- A range over a function that yields circles until one is good: the law at the caller. -/
namespace Go.Proofs.YtjcogpalmgcpbaaGreat
open Go Go.Proofs Go.RowKit Go.Maps Go.Sort Go.Lib

/-- A round of loop lp at a circle: it goes on past a bad one, it leaves at a good one. -/
def FindY (lp : Nat) (ok : List Nat → Prop) (bad : List Nat → Bool) (X : List Nat → World → Prop) (wL : World) : Prop :=
  ∀ (c : List Nat) (pv : Option Addr) (cv : Nat) (W1 : World), RowKit.Below wL.heap.size wL W1 → ok c → RowIn encN W1 (.slice pv c.length cv) c → ∀ m, YieldAt Fence.wide m Tryz.prog lp #[.slice pv c.length cv] W1 fun e W' =>
    (bad c = true ∧ e = .returned (.bool true) ∧ RowKit.Below W1.heap.size W1 W') ∨ (bad c = false ∧ e = .returned (.bool false) ∧ X c W')
/-- What the whole search leaves. -/
def FindEnd (All : List (List Nat)) (bad : List Nat → Bool) (X : List Nat → World → Prop) (W : World) (w' : World) : Prop :=
  (All.find? (fun c => !bad c) = none ∧ RowKit.Below W.heap.size W w') ∨ ∃ c, All.find? (fun c => !bad c) = some c ∧ X c w'
/-- What a round's body leaves: B: what lay below it when the loop began. -/
def roundEnd (id : Nat) (B : Nat) (bad : List Nat → Bool) (X : List Nat → World → Prop) (c : List Nat) (W : World) : Exit → Act → World → Prop
  | .normal, _, W' => bad c = true ∧ RowKit.Below W.heap.size W W'
  | .exit i, _, W' => i = id ∧ bad c = false ∧ X c W' ∧ ∀ k, B ≤ k → k < W.heap.size → W'.heap[k]? = W.heap[k]?
  | _, _, _ => False
theorem row_put {α : Type} {enc : α → List Value} {w : World} {v : Value} {L : List α} {l : Nat} {o o' : Obj} (h : RowIn enc w v L) (hen : ∀ x, enc x ≠ []) (ho : w.heap[l]? = some o) (hc : o.isCells = false) : RowIn enc (w.putObj l o') v L := by
  obtain ⟨p, c, rfl, h1, h2, h3⟩ := h
  refine ⟨p, c, rfl, h1, h2, fun hl => ?_⟩
  obtain ⟨b, of, rfl, hb, hx⟩ := h3 hl
  refine ⟨b, of, rfl, by simpa using hb, fun j u hj => ?_⟩
  have hne : b ≠ l := by
    rintro rfl
    obtain ⟨x, L', rfl⟩ := List.exists_cons_of_ne_nil (List.ne_nil_of_length_pos hl)
    obtain ⟨v0, t, hv⟩ := List.exists_cons_of_ne_nil (hen x)
    have h0 := hx 0 v0 (by show (enc x ++ _)[0]? = _; rw [hv]; rfl)
    unfold World.cell? at h0
    rw [ho] at h0
    cases o <;> simp_all [Obj.isCells]
  rw [World.cell?_of_block (a := ⟨b, of + j, none⟩) (World.putObj_heap_other hne)]
  exact hx j u hj
theorem below_put (W : World) (l : Nat) (o : Obj) {B : Nat} (h : B ≤ l) (hB : B ≤ W.heap.size) : RowKit.Below B W (W.putObj l o) :=
  (Below.refl B W).grown (grownBy_putObj' W l o) hB (fun k e => by cases e; exact h)
theorem wp_find_range {ps : Array Tmp} {assign body : Code} {Q : Exit → Act → World → Prop} {a : Act} {w : World} {g : Operand} {gf : Nat} {lb : Array Value} {id : Nat} {p1 : Tmp} (hps : ps = #[p1]) (hg : a.eval g = .func (.func gf) #[] lb) (eg : ∀ args w, (callFunc gf args).run Tryz.prog w = .ok (.enter gf args) w)
    (All : List (List Nat)) (bad : List Nat → Bool) (X : List Nat → World → Prop) (a₁ : Option Addr → Nat → List Nat → Act)
    (hXp : ∀ c W l r r', w.heap.size ≤ l → W.heap[l]? = some (.loop r) → X c W → X c (W.putObj l (.loop r')))
    (hXb : ∀ c W W', X c W → RowKit.Below W.heap.size W W' → X c W')
    (hiter : ∀ (lp : Nat) (X' : List Nat → World → Prop) (wL : World), (∀ c W W', X' c W → RowKit.Below W.heap.size W W' → X' c W') → RowKit.Below w.heap.size w wL → FindY lp (fun c => c ∈ All) bad X' wL → Calls Tryz.prog gf (#[.func (.yield lp) #[] #[]] ++ lb) wL fun e w' => (∃ v, e = .returned v) ∧ FindEnd All bad X' wL w')
    (hassign : ∀ (lp : Nat) (pv : Option Addr) (cv : Nat) (c : List Nat) (W : World) (K : Act → World → Prop), K (a₁ pv cv c) W → assign.wpIn (Fence.wide.inRound lp) 3 Tryz.prog (Exit.then K (fun _ _ _ => False)) { tmps := a.tmps.setIfInBounds p1 (.slice pv c.length cv), defers := [] } W)
    (hbody : ∀ (lp : Nat) (pv : Option Addr) (cv : Nat) (c : List Nat) (W : World), RowKit.Below w.heap.size w W → c ∈ All → RowIn encN W (.slice pv c.length cv) c → body.wpIn (Fence.wide.inRound lp) 3 Tryz.prog (roundEnd id w.heap.size bad X c W) (a₁ pv cv c) W)
    (hdone : All.find? (fun c => !bad c) = none → ∀ (D : Nat) (W : World), w.heap.size ≤ D → RowKit.Below w.heap.size w W → W.heap[D]? = some (.deferred (some [])) → Q .normal { a with defers := { target := .collected D, args := #[] } :: a.defers } W)
    (hstop : ∀ c, All.find? (fun c => !bad c) = some c → ∀ (D : Nat) (W : World), w.heap.size ≤ D → X c W → W.heap[D]? = some (.deferred (some [])) → Q (.exit id) { a with defers := { target := .collected D, args := #[] } :: a.defers } W) :
    (Code.rangeFunc g ps assign body).wp Tryz.prog Q a w := by
  subst hps
  refine (wpIn_wide (n := 4)).1 ?_
  refine wpIn_rangeFunc ?_
  intro fn _
  rw [Fence.wide_round]
  obtain ⟨rec, hrec⟩ : ∃ rec : LoopState → Option Code → Loop, rec = fun st pe => { state := st, pending := pe, fn, tmps := a.tmps, params := #[p1], assign, body, defers := w.heap.size } := ⟨_, rfl⟩
  obtain ⟨W1, hW1⟩ : ∃ W1, (w.alloc (.deferred (some []))).alloc (.loop (rec .ready none)) = W1 := ⟨_, rfl⟩
  have hl1 : W1.heap[w.heap.size + 1]? = some (.loop (rec .ready none)) := by
    rw [← hW1]; have := World.alloc_heap_new (w.alloc (.deferred (some []))) (.loop (rec .ready none)); rwa [World.size_alloc] at this
  have hd1 : W1.heap[w.heap.size]? = some (.deferred (some [])) := by
    rw [← hW1]; exact (Below.heap_alloc _ _ _ (by simp)).trans (World.alloc_heap_new w _)
  have hb1 : RowKit.Below w.heap.size w W1 := by rw [← hW1]; exact ((Below.refl _ w).alloc (Nat.le_refl _) _).alloc (by simp) _
  refine ⟨w.heap.size + 1, [{ target := .collected w.heap.size, args := #[] }], W1, { target := .fn (.func gf) lb, args := #[.func (.yield (w.heap.size + 1)) #[] #[]] }, W1, gf,
    #[.func (.yield (w.heap.size + 1)) #[] #[]] ++ lb, W1, ?_, ?_, ?_, ?_, fun _ => by omega, ?_⟩
  · rw [← hW1, hrec]; exact run_enterLoop_outer _ _ _ _ _
  · simp only [resolve, hg]
    simp [go_sem]
  · intro f' _; trivial
  · simp [invoke, go_sem, eg]
  · refine callsIn_wide.2 ?_
    refine (hiter (w.heap.size + 1) (fun c W => X c W ∧ W.heap[w.heap.size + 1]? = some (.loop (rec .done (some (.exit id)))) ∧ W.heap[w.heap.size]? = some (.deferred (some []))) W1 ?_ hb1 ?_).mono ?_
    · rintro c W W' ⟨hx, hl, hd⟩ hb
      exact ⟨hXb c W W' hx hb, (hb.block _ (lt_of_heap hl)).trans hl, (hb.block _ (lt_of_heap hd)).trans hd⟩
    · intro c pv cv Wc hbc hc hrow m
      have hl := (hbc.block _ (lt_of_heap hl1)).trans hl1
      have hd := (hbc.block _ (lt_of_heap hd1)).trans hd1
      have hlt := lt_of_heap hl
      have hy := run_yield (P := Tryz.prog) (args := #[.slice pv c.length cv]) hl (by rw [hrec]; rfl)
      rw [hrec] at hy
      have hy2 : (Instr.yield (w.heap.size + 1) #[.slice pv c.length cv]).run Tryz.prog Wc = .ok (.round (w.heap.size + 1) fn (a.tmps.setIfInBounds p1 (.slice pv c.length cv)) assign body) Wc := by rw [hy]; simp
      refine ⟨fn, _, assign, body, hy2, ?_⟩
      have hround : RoundIn Fence.wide 3 Tryz.prog (w.heap.size + 1) fn (a.tmps.setIfInBounds p1 (.slice pv c.length cv)) assign body Wc fun e W' =>
          (bad c = true ∧ e = .returned (.bool true) ∧ RowKit.Below Wc.heap.size Wc W') ∨ (bad c = false ∧ e = .returned (.bool false) ∧ (X c W' ∧ W'.heap[w.heap.size + 1]? = some (.loop (rec .done (some (.exit id)))) ∧ W'.heap[w.heap.size]? = some (.deferred (some [])))) := by
        refine roundIn_of_wpIn trivial (hassign _ pv cv c Wc _ ⟨_, run_beginRound hl (by rw [hrec]), ?_⟩)
        obtain ⟨W2, hW2⟩ : ∃ W2, Wc.putObj (w.heap.size + 1) (.loop { rec .ready none with state := .busy }) = W2 := ⟨_, rfl⟩
        have hl2 : W2.heap[w.heap.size + 1]? = some (.loop { rec .ready none with state := .busy }) := by rw [← hW2]; exact World.putObj_heap_same hlt
        have hd2 : W2.heap[w.heap.size]? = some (.deferred (some [])) := by rw [← hW2]; exact (World.putObj_heap_other (by omega)).trans hd
        have hs2 : W2.heap.size = Wc.heap.size := by rw [← hW2]; simp
        have hbW2 : RowKit.Below w.heap.size w W2 := (below_next hb1 hbc).trans (by rw [← hW2]; exact below_put Wc _ _ (by omega) (by have := (below_next hb1 hbc).size; omega))
        have hrow2 : RowIn encN W2 (.slice pv c.length cv) c := by rw [← hW2]; exact row_put hrow (fun x => by simp [encN]) hl rfl
        have hoth : ∀ k, k ≠ w.heap.size + 1 → W2.heap[k]? = Wc.heap[k]? := fun k hk => by rw [← hW2]; exact World.putObj_heap_other hk
        have hoe : W2.os = Wc.os ∧ W2.tape = Wc.tape ∧ W2.output = Wc.output := by rw [← hW2]; exact ⟨rfl, rfl, rfl⟩
        rw [hW2]
        refine wpIn_mono (hbody _ pv cv c W2 hbW2 hc hrow2) ?_
        rintro e a3 W3 hp
        cases e with
        | normal =>
          obtain ⟨hbad, hb3⟩ := hp
          have hl3 := (hb3.block _ (lt_of_heap hl2)).trans hl2
          refine ⟨_, _, run_endRound none hl3, .inl ⟨hbad, rfl, ?_⟩⟩
          have hsz := hb3.size
          refine ⟨hb3.os.trans hoe.1, hb3.tape.trans hoe.2.1, hb3.output.trans hoe.2.2, by rw [World.putObj_size]; omega, fun k hk => ?_⟩
          by_cases e : k = w.heap.size + 1
          · subst e
            rw [World.putObj_heap_same (lt_of_heap hl3), hl, hrec]
            rfl
          · rw [World.putObj_heap_other e, hb3.block k (by omega), hoth k e]
        | exit i =>
          obtain ⟨rfl, hbad, hx3, hk3⟩ := hp
          have hlo := (below_next hb1 hbc).size
          have hl3 := (hk3 (w.heap.size + 1) (by omega) (lt_of_heap hl2)).trans hl2
          have hd3 := (hk3 w.heap.size (by omega) (lt_of_heap hd2)).trans hd2
          refine ⟨_, _, run_endRound (some (.exit i)) hl3, .inr ⟨hbad, rfl, hXp c W3 _ _ _ (by omega) hl3 hx3, ?_, (World.putObj_heap_other (by omega)).trans hd3⟩⟩
          rw [World.putObj_heap_same (lt_of_heap hl3), hrec]
          rfl
        | ret => exact (hp : False).elim
        | goto t => exact (hp : False).elim
        | panic ch => exact (hp : False).elim
        | outgrown => exact (hp : False).elim
      exact ⟨hround.1, fun c cs _ => hround.2 c cs (room_wide _)⟩
    · rintro e W2 ⟨⟨v, rfl⟩, ⟨hn, hb2⟩ | ⟨c, hc, hx, hl, hd⟩⟩
      · have hl := (hb2.block _ (lt_of_heap hl1)).trans hl1
        have hd := (hb2.block _ (lt_of_heap hd1)).trans hd1
        refine ⟨none, _, by have := run_endLoop (P := Tryz.prog) hl (by rw [hrec]; simp); rw [hrec] at this; exact this, ?_⟩
        exact hdone hn _ _ (Nat.le_refl _) ((below_next hb1 hb2).trans (below_put W2 _ _ (by omega) (by have := (below_next hb1 hb2).size; omega))) ((World.putObj_heap_other (by omega)).trans hd)
      · refine ⟨some (.exit id), _, by have := run_endLoop (P := Tryz.prog) hl (by rw [hrec]; simp); rw [hrec] at this; exact this, ?_⟩
        exact wpIn_exit (hstop c hc _ _ (Nat.le_refl _) (hXp c W2 _ _ _ (by omega) hl hx) ((World.putObj_heap_other (by omega)).trans hd))

/-! ### A drawn region inside a round: as outside -/
section
variable {P : Program} {o : Oper} {a : Act} {w : World} {next : Act → World → Prop} {Q : Exit → Act → World → Prop} {l n : Nat}
theorem rows_wide {row : String} {args : Array Value} {R : Value → World → Prop} (h : Rows P row args w R) : RowsIn (Fence.wide.inRound l) n P row args w R :=
  fun c cs _ => let ⟨v, w', r, s⟩ := h c cs; ⟨v, w', r, stepsIn_wide.2 s⟩
theorem oper_round (hd : ∀ c, o.op ≠ .defer c) (h : o.wp P a w next Q) : o.wpIn (Fence.wide.inRound l) n P a w next Q := by
  unfold Oper.wp at h
  unfold Oper.wpIn
  refine ⟨fun _ _ => trivial, ?_⟩
  rw [Oper.semAt_plain _ _ _ hd]
  have hdp : (Fence.wide.inRound l).depth.isSome = true → 1 ≤ n := fun hh => by simp [Fence.wide] at hh
  generalize (execOp a.eval o).run P w = r at h ⊢
  cases r with
  | ok x w' =>
    cases x with
    | value v => exact h
    | skip => exact h
    | defer d => exact h
    | enter f args => exact ⟨hdp, CallsIn.inRound l (callsIn_wide.2 h)⟩
    | row row args => exact ⟨hdp, rows_wide h⟩
    | _ => exact (h : False).elim
  | halt hh w' =>
    cases hh with
    | panic v => exact h
    | _ => exact (h : False).elim
theorem ops_round {ops : Array Oper} (hd : ∀ (j : Nat) (o : Oper), ops[j]? = some o → ∀ c, o.op ≠ .defer c) (hQ : ¬ LetsOut Q) : ∀ (is : List Nat) (a : Act) (w : World), wpOps P ops Q is a w → wpOpsIn (Fence.wide.inRound l) n P ops Q is a w
  | [], _, _, h => h
  | i :: is, a, w, h => by
    unfold wpOps at h
    unfold wpOpsIn
    cases ho : ops[i]? with
    | none =>
      rw [ho] at h
      exact ops_round hd hQ is a w h
    | some o =>
      rw [ho] at h
      dsimp only at h ⊢
      split at h
      · rename_i hw
        rw [if_pos hw]
        rcases h with h | h
        · exact oper_round (hd i o ho) (Oper.wp_mono (fun a w h => ops_round hd hQ is a w h) h)
        · exact absurd h.2 hQ
      · rename_i hw
        rw [if_neg hw]
        exact ⟨fun _ _ => trivial, ops_round hd hQ is _ w h⟩
theorem of_onlyN_in {F : Fence} {c : Code} {K : Act → World → Prop} (h : c.wpIn F n P (OnlyN K) a w) (hk : ∀ a w, K a w → Q .normal a w) : c.wpIn F n P Q a w :=
  Code.wpIn_mono (fun e a w h => by cases e <;> first | exact hk _ _ h | exact (h : False).elim) h
theorem wp_round_flow {ops : Array Oper} {S : World → Prop} {K : Act → World → Prop} {id : Nat} {a : Act} {w : World} (σ : List (Nat × Bool)) (hm : P.follows .mixedOrders = true) (hs : Region.noSelect ops = true) (hd : ops.all (fun o => match o.op with | .defer _ => false | _ => true) = true)
    (hf : flowOk .any ops (Array.replicate ops.size false) σ = true) (hl : σ.length ≤ ops.size) (hS : S w.drew) (h : wpFlow P ops (OnlyN K) S σ a w.drew) : (Code.region id ops true).wpIn (Fence.wide.inRound l) n P (OnlyN K) a w :=
  wpIn_region_draw fun t => by
    simp only [Region.schedule, hm, Bool.true_or, if_true]
    refine ops_round (fun j o ho c e => ?_) (fun ⟨_, _, h⟩ => h) _ _ _ (wpAny_sound ops.size t _ a _ (wpAny_of_held _ _ _ _ (flow_sound hs (fun _ _ _ _ _ h => h) σ _ _ a w.drew hf hl hS h)))
    have hm2 := Array.all_eq_true.1 hd j (by rcases Array.getElem?_eq_some_iff.1 ho with ⟨h, _⟩; exact h)
    rcases Array.getElem?_eq_some_iff.1 ho with ⟨_, rfl⟩
    rw [e] at hm2
    cases hm2
end
end Go.Proofs.YtjcogpalmgcpbaaGreat
namespace Go.Proofs.YtjcogpalmgcpbaaGreat
open Go Go.Proofs Go.RowKit Go.Maps Go.Sort Go.Lib

theorem cloneN_any (p : Option Addr) (c : Nat) (L : List Nat) (w : World) (h : RowIn encN w (.slice p L.length c) L) (hl : L.length ≤ 1000000000000) :
    Calls Tryz.prog 59 #[.slice p L.length c] w fun e w' => ∃ v', e = .returned v' ∧ w'.ownsRow w.heap.size 3 1 v' L.length (flatE encN L) ∧ RowKit.Below w.heap.size w w' := by
  have h := rowN h
  obtain ⟨q, c2, hv, hc, hz, hr⟩ := h
  injection hv with e1 _ e3
  subst e1; subst e3
  have hlen := intsOf_len L
  rcases p with _ | ad
  · obtain rfl := hz rfl
    obtain rfl : L = [] := List.eq_nil_of_length_eq_zero (by omega)
    refine (Tryz.slices_Clone_int_nil 0 0 w).mono ?_
    rintro _ w' ⟨rfl, rfl⟩
    exact ⟨_, rfl, World.ownsRow_nil _ _ _ _, Below.refl _ _⟩
  · rcases Nat.eq_zero_or_pos L.length with h0 | h0
    · obtain rfl : L = [] := List.eq_nil_of_length_eq_zero h0
      refine (Tryz.slices_Clone_int_zero ad c w).mono ?_
      rintro _ w' ⟨v', rfl, ho, _, hb⟩
      exact ⟨v', rfl, ho, hb⟩
    · obtain ⟨b, o, hp, _, hx⟩ := hr (by omega)
      obtain rfl := Option.some.inj hp
      have cc := Tryz.slices_Clone_int b o L.length c (intsOf L) w (by omega) (by omega) fun j hj => hx j _ (by
        rw [flatI, List.getElem?_map, List.getElem?_eq_getElem (by omega), Option.map_some, List.getD_eq_getElem?_getD, List.getElem?_eq_getElem (by omega)]; rfl)
      refine cc.mono ?_
      rintro _ w' ⟨v', rfl, ho, _, hb⟩
      refine ⟨v', rfl, ?_, hb⟩
      rw [flatN, flatI]
      rw [show (intsOf L).take L.length = intsOf L from by rw [← hlen]; exact List.take_length] at ho
      exact ho
theorem chain_lt {w : World} {b : Nat} {l : List Req} {can : List Nat} {d : Deal} (hx : ExIn w b l can d) {c : List Nat} (h : Chain l can c) : ∀ n ∈ c, n < l.length := fun n hn => by
  obtain ⟨i, hi⟩ := List.mem_iff_getElem?.1 hn
  exact hx.can n (h i n hi).1
theorem wpList_append_rowg {α : Type} {enc : α → List Value} {k : Nat} {P : Program} {e t : TypeId} (R : RowT P enc k e t) {ops : Array Oper} {rest : List Oper} {o : Oper} {a : Act} {w : World} {Q : Exit → Act → World → Prop} (hw : Region.wanted o (yielded ops a.tmps) = true) (s x : Operand) (ho : o.op = .call { callee := .builtin .append, args := #[s, x], argTypes := #[t, t] })
    (base : Nat) (v xv : Value) (X Y : List α) (hs : a.eval s = v) (hxv : a.eval x = xv) (hown : w.ownsRow base e k v X.length (flatE enc X)) (hx : RowIn enc w xv Y) (hl : X.length + Y.length ≤ 1000000) (hb : base ≤ w.heap.size)
    (h : ∀ v' w', AppT enc k e w base v X Y v' w' → wpList P ops Q rest (a.put o.dst v') w') : wpList P ops Q (o :: rest) a w :=
  wpList_step fun K hK => by
    rw [if_pos hw]
    exact wp_append_row R s x ho base v xv X Y hs hxv hown hx hl hb fun v' w' h2 => hK _ _ (h v' w' h2)
/-- The circles behind n. -/
def extF (l : List Req) (can : List Nat) (m : Nat) (c : List Nat) (n : Nat) : List (List Nat) := if followsB l c n = true then extP l can m (c ++ [n]) else []
theorem extP_succ (l : List Req) (can : List Nat) (m : Nat) (c : List Nat) : extP l can (m + 1) c = can.flatMap (extF l can m c) := rfl
theorem find_flat {f : Nat → List (List Nat)} {p : List Nat → Bool} {can : List Nat} {k n : Nat} (hz : can[k]? = some n) (h : ((can.take k).flatMap f).find? p = none) : ((can.take (k + 1)).flatMap f).find? p = (f n).find? p := by
  rw [take_one hz, List.flatMap_append, List.find?_append, h]
  simp
theorem find_flat_some {f : Nat → List (List Nat)} {p : List Nat → Bool} {can : List Nat} {k : Nat} {x : List Nat} (h : ((can.take k).flatMap f).find? p = some x) : (can.flatMap f).find? p = some x := by
  have e : can = can.take k ++ can.drop k := (List.take_append_drop k can).symm
  rw [e, List.flatMap_append, List.find?_append, h]; rfl
/-- What extend leaves. -/
def ExtPost (All : List (List Nat)) (bad : List Nat → Bool) (X : List Nat → World → Prop) (W : World) (e : Ending) (W' : World) : Prop :=
  (All.find? (fun c => !bad c) = none ∧ e = .returned (.bool true) ∧ RowKit.Below W.heap.size W W') ∨ ∃ x, All.find? (fun c => !bad c) = some x ∧ e = .returned (.bool false) ∧ X x W'
set_option maxHeartbeats 8000000 in
set_option maxRecDepth 100000 in
theorem extend_any (lp b many : Nat) (l : List Req) (can : List Nat) (d : Deal) (ok : List Nat → Prop) (bad : List Nat → Bool) (X : List Nat → World → Prop) (wL : World) (hX : ∀ c W W', X c W → RowKit.Below W.heap.size W W' → X c W') (hY : FindY lp ok bad X wL) (hm2 : 2 ≤ many) (hm4 : many ≤ 4) :
    ∀ (m : Nat) (c : List Nat) (nc : Nat) (pv : Option Addr) (cv : Nat) (W : World), c.length = nc → RowKit.Below wL.heap.size wL W → ExIn W b l can d → Chain l can c → RowIn encN W (.slice pv nc cv) c → nc + m = many → (∀ x ∈ extP l can m c, ok x) →
    Calls Tryz.prog 40 #[.pointer (some ⟨b, 0, none⟩), .slice pv nc cv, .int .i64 many, .func (.yield lp) #[] #[]] W (ExtPost (extP l can m c) bad X W) := by
  have HXX := Lib.hid hX
  have HYY := Lib.hid hY
  clear hX hY
  intro m
  induction m with
  | zero =>
    intro c nc pv cv W hnc hbW hex hch hc hlen hok
    subst hnc
    have t1 : ((c.length : Int) == (many : Int)) = true := by rw [beq_iff_eq]; omega
    have hcl := chain_lt hex hch
    have cc := closes_any b l can d c pv cv W hex hc (by omega) hcl (by omega)
    have HOK := Lib.hid hok
    have HC := Lib.hid hc
    clear hcl hok hc hex hch
    go_enter Tryz.func40, Tryz.ntmps40
    go_upto_region 2 with fail
    refine (wpIn_wide (n := 3)).1 ?_
    generalize hG : closesB l c = G at cc
    cases G
    · have HN : Hid ((extP l can 0 c).find? (fun c => !bad c) = none) := Lib.hid (by
        rw [show extP l can 0 c = (if closesB l c = true then [c] else []) from rfl, hG]; rfl)
      clear hG
      gi_wp2_with (refine ⟨trivial, ?_⟩; gi_at_call 45; refine (callsIn_wide.2 cc).mono ?_; clear cc; rintro _ w2 ⟨rfl, hb2⟩)
      refine ⟨fun _ h => (by cases h), ?_⟩
      gi_wp2
      go_wp2_with fail
      go_ret
      exact .inl ⟨HN.out, rfl, hb2⟩
    · have HE : Hid (extP l can 0 c = [c]) := Lib.hid (by
        rw [show extP l can 0 c = (if closesB l c = true then [c] else []) from rfl, hG]; rfl)
      clear hG
      gi_wp2_with (refine ⟨trivial, ?_⟩; gi_at_call 45; refine (callsIn_wide.2 cc).mono ?_; clear cc; rintro _ w2 ⟨rfl, hb2⟩; obtain ⟨fn, tmps, assign, body, hy, hR⟩ := HYY.out c pv cv w2 (below_next hbW hb2) (HOK.out c (by rw [HE.out]; exact List.mem_singleton.2 rfl)) (HC.out.below hb2) 2)
      refine hR.mono ?_
      rintro _ w3 (⟨hbad, rfl, hb3⟩ | ⟨hbad, rfl, hXc⟩)
      · have HN : Hid ((extP l can 0 c).find? (fun c => !bad c) = none) := Lib.hid (by rw [HE.out, List.find?_cons, hbad]; rfl)
        have hb4 := below_next hb2 hb3
        clear hbad hy hR
        gi_wp2
        go_wp2_with fail
        go_ret
        exact .inl ⟨HN.out, rfl, hb4⟩
      · have HN : Hid ((extP l can 0 c).find? (fun c => !bad c) = some c) := Lib.hid (by rw [HE.out, List.find?_cons, hbad]; rfl)
        have HXC := Lib.hid hXc
        clear hbad hy hR hXc
        gi_wp2
        go_wp2_with fail
        go_ret
        exact .inr ⟨c, HN.out, rfl, HXC.out⟩
  | succ m ih =>
    intro c nc pv cv W hnc hbW hex hch hc hlen hok
    subst hnc
    have t1 : ((c.length : Int) == (many : Int)) = false := by rw [beq_eq_false_iff_ne]; omega
    have hcl := chain_lt hex hch
    have HEX := Lib.hid hex
    have HCH := Lib.hid hch
    have HC := Lib.hid hc
    have HCL := Lib.hid hcl
    have HOK := Lib.hid hok
    have IH := Lib.hid ih
    obtain ⟨⟨pl, cl, pc, cc, ps, cs, pw, cw, hxb, -, hcan, -, -⟩, -, -, -, lcan, hlt⟩ := hex
    have hb1 : W.cell? ⟨b, 1, none⟩ = some (.slice pc can.length cc) := Lib.cell_of_heap hxb 1
    have HCAN := Lib.hid hcan
    have HLT := Lib.hid hlt
    clear hch hc hcl hok ih hcan hlt
    go_enter Tryz.func40, Tryz.ntmps40
    go_wp2_with fail
    go_loopw [29] (fun i wr => ∃ k : Nat, k ≤ can.length ∧ i = .int .i64 k ∧ Hid (((can.take k).flatMap (extF l can m c)).find? (fun c => !bad c) = none) ∧ RowKit.Below W.heap.size W wr) (fun i _ => can.length - (RowKit.intOf i).toNat)
    case atStart => exact ⟨0, Nat.zero_le _, rfl, Lib.hid rfl, Below.refl _ _⟩
    case round =>
      obtain ⟨k, hk, rfl, HI, hbr⟩ := hrel
      by_cases hkl : k < can.length
      · obtain ⟨gc, oc, epc, hgc, hcv⟩ := nats_at HCAN.out rfl (by omega)
        subst epc
        have hz := List.getElem?_eq_getElem hkl
        have hck := (hbr.cell (p := ⟨gc, oc + k, none⟩) hgc).trans (hcv k _ hz)
        have HM := Lib.hid (List.getElem_mem hkl)
        have HFF := Lib.hid (find_flat (f := extF l can m c) (p := fun c => !bad c) hz HI.out)
        generalize can[k] = n at hck HM HFF
        have hnl := HLT.out n HM.out
        have i2 : (k : Int) < (can.length : Int) := by omega
        clear hz hcv
        have cf := follows_any b l can d c pv cv n wr (HEX.out.below hbr) (HC.out.below hbr) HCL.out hnl (by omega)
        go_wp2_with fail
        refine cf.mono ?_
        rintro _ w2 ⟨rfl, hb2⟩
        have hb3 := below_next hbr hb2
        clear cf hck
        generalize hG : followsB l c n = G
        cases G
        · have HN : Hid (((can.take (k + 1)).flatMap (extF l can m c)).find? (fun c => !bad c) = none) := Lib.hid (by rw [HFF.out]; unfold extF; rw [hG]; rfl)
          clear hG
          go_wp2_with fail
          go_roundw
          case rel => exact ⟨k + 1, by omega, by go_num, HN, hb3⟩
          case measure => simp [RowKit.intOf]; omega
        · have HN : Hid (((can.take (k + 1)).flatMap (extF l can m c)).find? (fun c => !bad c) = (extP l can m (c ++ [n])).find? (fun c => !bad c)) := Lib.hid (by rw [HFF.out]; unfold extF; rw [hG]; rfl)
          have HCN := Lib.hid (chain_snoc.2 ⟨HCH.out, HM.out, hG⟩)
          have HOKN : Hid (∀ x ∈ extP l can m (c ++ [n]), ok x) := Lib.hid fun x hx => HOK.out x (by
            rw [extP_succ, List.mem_flatMap]
            exact ⟨n, HM.out, by unfold extF; rw [hG]; exact hx⟩)
          clear hG
          go_wp2_with fail
          refine (cloneN_any pv cv c w2 (HC.out.below hb3) (by omega)).mono ?_
          rintro _ w3 ⟨v3, rfl, ho3, hb4⟩
          have hb5 := below_next hb3 hb4
          obtain ⟨p3, e3, rfl⟩ := own_form ho3
          have hown9 := (row_base ho3 hb3.size).alloc (.cells #[.int .i64 n] 3)
          have hlit := rowIn_lit (enc := encN) (e := 3) w3 [n] #[.int .i64 n] w3.heap.size rfl rfl 1 rfl
          have hb9 := hb5.alloc hb5.size (.cells #[.int .i64 n] 3)
          go_wp2_with ((with_reducible refine wpList_append_rowg (o := ⟨some 43, _, _, _, _, _⟩) natT ?_ (.tmp 40) (.tmp 42) ?_ W.heap.size _ _ c [n] ?_ ?_ hown9 hlit (by simp; omega) hb9.size ?_); rfl; rfl; rfl; rfl; intro v9 w9 hA9; obtain ⟨p9, c9, rfl⟩ := own_form hA9.own)
          have hbF := hb9.grown hA9.grown hb9.size (fun q hq => (own_lo hown9 hq).1)
          have hrow := rowIn_own (k := 1) (fun _ => rfl) (by decide) hA9.own
          have hcn : (c ++ [n]).length = c.length + 1 := by rw [List.length_append, List.length_singleton]
          rw [hcn] at hrow
          refine (IH.out (c ++ [n]) (c.length + 1) p9 c9 w9 hcn (below_next hbW hbF) (HEX.out.below hbF) HCN.out hrow (by omega) HOKN.out).mono ?_
          clear hown9 hlit hb9 ho3 hA9 hrow hb4 hb5
          rintro _ w10 (⟨hn, rfl, hb10⟩ | ⟨x, hx, rfl, hXx⟩)
          · have HN2 := Lib.hid (HN.out.trans hn)
            have hb11 := below_next hbF hb10
            clear hn
            go_wp2_with fail
            go_roundw
            case rel => exact ⟨k + 1, by omega, by go_num, HN2, hb11⟩
            case measure => simp [RowKit.intOf]; omega
          · have HN2 := Lib.hid (find_flat_some (HN.out.trans hx))
            have HXF := Lib.hid hXx
            clear hx hXx
            go_wp2_with fail
            go_ret
            exact .inr ⟨x, by rw [extP_succ]; exact HN2.out, rfl, HXF.out⟩
      · obtain rfl : k = can.length := by omega
        have HN : Hid ((extP l can (m + 1) c).find? (fun c => !bad c) = none) := Lib.hid (by
          have := HI.out
          rw [List.take_length] at this
          exact this)
        go_wp2_with fail
        go_ret
        exact .inl ⟨HN.out, rfl, hbr⟩
end Go.Proofs.YtjcogpalmgcpbaaGreat
