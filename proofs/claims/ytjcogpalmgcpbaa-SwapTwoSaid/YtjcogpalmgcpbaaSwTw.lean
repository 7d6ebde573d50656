/- The law SwapTwo: two students who wait for each other's place exchange them. -/
import Derived.Test.YtjcogpalmgcpbaaSwSn
namespace Go.Proofs.Ytjcogpalmgcpbaa
open Go Go.Proofs Go.RowKit Go.Maps Go.Sort Go.Lib

/-! ### who has met what, and the deal, while the others are added -/
def tM (a b : Int) (k : Nat) : List Seat := [⟨a, cA⟩, ⟨a, cB⟩, ⟨b, cA⟩, ⟨b, cB⟩] ++ oth k
def tS (a b : Int) (k : Nat) : List Seat := [⟨a, cA⟩, ⟨b, cB⟩] ++ oth k
theorem tM_succ (a b : Int) (k : Nat) : tM a b (k + 1) = tM a b k ++ [⟨2000 + k, cA⟩, ⟨2000 + k, cB⟩] := by unfold tM; rw [oth, List.append_assoc]
theorem tS_succ (a b : Int) (k : Nat) : tS a b (k + 1) = tS a b k ++ [⟨2000 + k, cA⟩, ⟨2000 + k, cB⟩] := by unfold tS; rw [oth, List.append_assoc]
theorem tM_len (a b : Int) (k : Nat) : (tM a b k).length = 4 + 2 * k := by unfold tM; rw [List.length_append, oth_len]; rfl
theorem tS_len (a b : Int) (k : Nat) : (tS a b k).length = 2 + 2 * k := by unfold tS; rw [List.length_append, oth_len]; rfl
structure TwSt (wc : World) (X Y : List Seat) (a b : Int) (bw bd : Nat) (mv sv : Value) (wr : World) : Prop where
  below : RowKit.Below wc.heap.size wc wr
  met : wr.ownsRow wc.heap.size 32 2 mv X.length (flatE Seat.cells X)
  box : wr.heap[bd]? = some (.cells #[sv, .slice (some ⟨bw, 0, none⟩) 2 2] 35 (0, 0))
  seats : wr.ownsRow wc.heap.size 32 2 sv Y.length (flatE Seat.cells Y)
  waits : RowIn Seat.cells wr (.slice (some ⟨bw, 0, none⟩) 2 2) [⟨a, cB⟩, ⟨b, cA⟩]
  apart : ∀ q, mv.ownBlock = some q → sv.ownBlock ≠ some q ∧ q ≠ bw ∧ q ≠ bd
  apart2 : ∀ q, sv.ownBlock = some q → q ≠ bw ∧ q ≠ bd
  lo : wc.heap.size ≤ bd
  ld : bd < wr.heap.size
  lw : bw < wr.heap.size
  hne : bd ≠ bw
section
variable {wc wr w' wn : World} {X Y Z : List Seat} {a b : Int} {bw bd : Nat} {mv sv v' : Value}
theorem TwSt.next (h : TwSt wc X Y a b bw bd mv sv wr) (hb : RowKit.Below wr.heap.size wr w') : TwSt wc X Y a b bw bd mv sv w' :=
  ⟨h.below.trans (hb.mono h.below.size), h.met.kept (row := none) (below_grows hb) (by cases mv.ownBlock <;> simp), (hb.block bd h.ld).trans h.box, h.seats.kept (row := none) (below_grows hb) (by cases sv.ownBlock <;> simp), h.waits.below hb, h.apart, h.apart2, h.lo, Nat.lt_of_lt_of_le h.ld hb.size, Nat.lt_of_lt_of_le h.lw hb.size, h.hne⟩
theorem TwSt.meet (h : TwSt wc X Y a b bw bd mv sv wr) (hA : AppT Seat.cells 2 32 wr wc.heap.size mv X Z v' wn) : TwSt wc (X ++ Z) Y a b bw bd v' sv wn := by
  have hne : ∀ q, mv.ownBlock = some q → wc.heap.size ≤ q := fun q hq => (own_lo h.met hq).1
  have hoth : ∀ q, v'.ownBlock = some q → mv.ownBlock = some q ∨ wr.heap.size ≤ q := fun q hq => by
    rcases hA.block with e | e
    · exact .inl (by rw [← e]; exact hq)
    · exact .inr (e q hq)
  refine ⟨h.below.grown hA.grown h.below.size (fun q hq => hne q hq), hA.own, (hA.grown.block bd h.ld (fun e => (h.apart bd e.symm).2.2 rfl)).trans h.box, h.seats.kept hA.grown ?_, ?_, ?_, h.apart2, h.lo, Nat.lt_of_lt_of_le h.ld hA.grown.size, Nat.lt_of_lt_of_le h.lw hA.grown.size, h.hne⟩
  · cases hs : sv.ownBlock with
    | none => exact .inl rfl
    | some q => exact .inr fun e => (h.apart q e.symm).1 hs
  · cases hm : mv.ownBlock with
    | none =>
      have hg := hA.grown
      rw [hm] at hg
      exact h.waits.below ⟨hg.os, hg.tape, hg.output, hg.size, fun k hk => hg.block k hk (by simp)⟩
    | some q =>
      have hg := hA.grown
      rw [hm] at hg
      exact row_other h.waits hg (fun e => (h.apart q hm).2.1 e.symm)
  · intro q hq
    rcases hoth q hq with e | e
    · exact h.apart q e
    · refine ⟨fun e2 => ?_, fun e2 => ?_, fun e2 => ?_⟩
      · have := (own_lo h.seats e2).2; omega
      · have := h.lw; omega
      · have := h.ld; omega
theorem TwSt.seat (h : TwSt wc X Y a b bw bd mv sv wr) (hA : AppT Seat.cells 2 32 wr wc.heap.size sv Y Z v' wn) : TwSt wc X (Y ++ Z) a b bw bd mv v' (wn.setCell ⟨bd, 0, none⟩ v') := by
  have hne : ∀ q, sv.ownBlock = some q → wc.heap.size ≤ q := fun q hq => (own_lo h.seats hq).1
  have hoth : ∀ q, v'.ownBlock = some q → sv.ownBlock = some q ∨ wr.heap.size ≤ q := fun q hq => by
    rcases hA.block with e | e
    · exact .inl (by rw [← e]; exact hq)
    · exact .inr (e q hq)
  have hbx : wn.heap[bd]? = some (.cells #[sv, .slice (some ⟨bw, 0, none⟩) 2 2] 35 (0, 0)) := (hA.grown.block bd h.ld (fun e => (h.apart2 bd e.symm).2 rfl)).trans h.box
  have hset : wn.grownBy (wn.setCell ⟨bd, 0, none⟩ v') (some bd) := Only.setCell wn bd 0 v' 0
  have hbl := h.below.grown hA.grown h.below.size (fun q hq => hne q hq)
  have hwt : RowIn Seat.cells wn (.slice (some ⟨bw, 0, none⟩) 2 2) [⟨a, cB⟩, ⟨b, cA⟩] := by
    cases hm : sv.ownBlock with
    | none =>
      have hg := hA.grown
      rw [hm] at hg
      exact h.waits.below ⟨hg.os, hg.tape, hg.output, hg.size, fun k hk => hg.block k hk (by simp)⟩
    | some q =>
      have hg := hA.grown
      rw [hm] at hg
      exact row_other h.waits hg (fun e => (h.apart2 q hm).1 e.symm)
  have hmt : wn.ownsRow wc.heap.size 32 2 mv X.length (flatE Seat.cells X) := h.met.kept hA.grown (by
    cases hm : mv.ownBlock with
    | none => exact .inl rfl
    | some q => exact .inr fun e => (h.apart q hm).1 e.symm)
  have ap2 : ∀ q, v'.ownBlock = some q → q ≠ bw ∧ q ≠ bd := fun q hq => by
    rcases hoth q hq with e | e
    · exact h.apart2 q e
    · have := h.lw; have := h.ld; omega
  refine ⟨hbl.grown hset hbl.size (fun q hq => by obtain rfl := Option.some.inj hq; exact h.lo), hmt.kept hset ?_, by simp [World.setCell, Array.getElem?_modify, hbx], hA.own.kept hset ?_, row_other hwt hset h.hne.symm, ?_, ap2, h.lo, Nat.lt_of_lt_of_le h.ld (Nat.le_trans hA.grown.size hset.size), Nat.lt_of_lt_of_le h.lw (Nat.le_trans hA.grown.size hset.size), h.hne⟩
  · cases hm : mv.ownBlock with
    | none => exact .inl rfl
    | some q => exact .inr fun e => (h.apart q hm).2.2 (Option.some.inj e)
  · cases hm : v'.ownBlock with
    | none => exact .inl rfl
    | some q => exact .inr fun e => (ap2 q hm).2 (Option.some.inj e)
  · intro q hq
    refine ⟨fun e => ?_, (h.apart q hq).2⟩
    rcases hoth q e with e | e
    · exact (h.apart q hq).1 e
    · have := (own_lo h.met hq).2; omega
end
theorem tw_start (wc : World) (a b : Int) : TwSt wc (tM a b 0) (tS a b 0) a b (wc.heap.size + 1 + 1) (wc.heap.size + 1 + 1 + 1) (.slice (some ⟨wc.heap.size, 0, none⟩) (tM a b 0).length 4) (.slice (some ⟨wc.heap.size + 1, 0, none⟩) (tS a b 0).length 2)
    ((((wc.alloc (.cells #[.int .i64 a, .string cA, .int .i64 a, .string cB, .int .i64 b, .string cA, .int .i64 b, .string cB] 32)).alloc (.cells #[.int .i64 a, .string cA, .int .i64 b, .string cB] 32)).alloc (.cells #[.int .i64 a, .string cB, .int .i64 b, .string cA] 32)).alloc (.cells #[.slice (some ⟨wc.heap.size + 1, 0, none⟩) 2 2, .slice (some ⟨wc.heap.size + 1 + 1, 0, none⟩) 2 2] 35)) := by
  have m1 := World.ownsRow_lit (base := wc.heap.size) (size := 2) (e := 32) wc #[.int .i64 a, .string cA, .int .i64 a, .string cB, .int .i64 b, .string cA, .int .i64 b, .string cB] 4 (Nat.le_refl _) (by unfold maxLen; omega) rfl
  obtain ⟨w1, h1⟩ : ∃ w1, wc.alloc (.cells #[.int .i64 a, .string cA, .int .i64 a, .string cB, .int .i64 b, .string cA, .int .i64 b, .string cB] 32) = w1 := ⟨_, rfl⟩
  have z1 : w1.heap.size = wc.heap.size + 1 := by rw [← h1]; simp
  have b1 : RowKit.Below wc.heap.size wc w1 := by rw [← h1]; exact below_alloc1 _ _
  rw [h1] at m1 ⊢
  clear h1
  have m2 := World.ownsRow_lit (base := wc.heap.size) (size := 2) (e := 32) w1 #[.int .i64 a, .string cA, .int .i64 b, .string cB] 2 (by omega) (by unfold maxLen; omega) rfl
  rw [z1] at m2
  have m1' := m1.alloc (.cells #[.int .i64 a, .string cA, .int .i64 b, .string cB] 32)
  obtain ⟨w2, h2⟩ : ∃ w2, w1.alloc (.cells #[.int .i64 a, .string cA, .int .i64 b, .string cB] 32) = w2 := ⟨_, rfl⟩
  have z2 : w2.heap.size = wc.heap.size + 1 + 1 := by rw [← h2]; simp [z1]
  have b2 : RowKit.Below wc.heap.size wc w2 := by rw [← h2]; exact below_next b1 (below_alloc1 _ _)
  rw [h2] at m2 m1' ⊢
  clear h2 m1 b1
  have r3 := rowIn_lit (enc := Seat.cells) (e := 32) w2 [⟨a, cB⟩, ⟨b, cA⟩] #[.int .i64 a, .string cB, .int .i64 b, .string cA] (wc.heap.size + 1 + 1) z2 rfl 2 rfl
  replace m1' := m1'.alloc (.cells #[.int .i64 a, .string cB, .int .i64 b, .string cA] 32)
  replace m2 := m2.alloc (.cells #[.int .i64 a, .string cB, .int .i64 b, .string cA] 32)
  obtain ⟨w3, h3⟩ : ∃ w3, w2.alloc (.cells #[.int .i64 a, .string cB, .int .i64 b, .string cA] 32) = w3 := ⟨_, rfl⟩
  have z3 : w3.heap.size = wc.heap.size + 1 + 1 + 1 := by rw [← h3]; simp [z2]
  have b3 : RowKit.Below wc.heap.size wc w3 := by rw [← h3]; exact below_next b2 (below_alloc1 _ _)
  rw [h3] at r3 m1' m2 ⊢
  clear h3 b2
  have hx := heap_alloc_new w3 (.cells #[.slice (some ⟨wc.heap.size + 1, 0, none⟩) 2 2, .slice (some ⟨wc.heap.size + 1 + 1, 0, none⟩) 2 2] 35)
  rw [z3] at hx
  refine ⟨below_next b3 (below_alloc1 _ _), m1'.alloc _, hx, m2.alloc _, r3.below (below_alloc1 _ _), ?_, ?_, by omega, by simp [z3], by simp [z3], by omega⟩
  · intro q hq
    obtain rfl := Option.some.inj hq
    exact ⟨fun e => by have : wc.heap.size + 1 = wc.heap.size := Option.some.inj e; omega, by dsimp only; omega, by dsimp only; omega⟩
  · intro q hq
    obtain rfl := Option.some.inj hq
    exact ⟨by dsimp only; omega, by dsimp only; omega⟩
/-! ### what is called at the end -/
theorem oth_mem : ∀ (k i : Nat), i < k → (⟨2000 + i, cA⟩ : Seat) ∈ oth k ∧ (⟨2000 + i, cB⟩ : Seat) ∈ oth k
  | 0, _, h => absurd h (Nat.not_lt_zero _)
  | k + 1, i, h => by
    rw [oth, List.mem_append, List.mem_append]
    rcases Nat.lt_succ_iff_lt_or_eq.1 h with h | rfl
    · exact ⟨.inl (oth_mem k i h).1, .inl (oth_mem k i h).2⟩
    · exact ⟨.inr (by simp), .inr (by simp)⟩
theorem two_wf {a b : Int} {k : Nat} (ha0 : 1 ≤ a) (ha1 : a ≤ 1000) (hb0 : 1 ≤ b) (hb1 : b ≤ 1000) (hk : k ≤ 100) : ∀ s ∈ tM a b k, s.wf := fun s hs => by
  have hi : ∀ (z : Int) (c : ByteArray), 0 ≤ z → z ≤ 3000 → c = cA ∨ c = cB → Seat.wf ⟨z, c⟩ := fun z c h0 h1 hc => by
    refine ⟨?_, ?_⟩
    · show (decide (IntKind.i64.min ≤ z) && decide (z ≤ IntKind.i64.max)) = true
      rw [Bool.and_eq_true, decide_eq_true_eq, decide_eq_true_eq]
      have e1 : IntKind.i64.min = -9223372036854775808 := by decide
      have e2 : IntKind.i64.max = 9223372036854775807 := by decide
      omega
    · rcases hc with rfl | rfl
      · show ByteArray.size cA ≤ maxLen; decide
      · show ByteArray.size cB ≤ maxLen; decide
  have ho : ∀ k, k ≤ 100 → ∀ s ∈ oth k, s.wf := fun k => by
    induction k with
    | zero => intro _ s hs; cases hs
    | succ k ih =>
      intro hk s hs
      rw [oth, List.mem_append] at hs
      rcases hs with hs | hs
      · exact ih (by omega) s hs
      · simp only [List.mem_cons, List.not_mem_nil, or_false] at hs
        rcases hs with rfl | rfl
        · exact hi _ _ (by omega) (by omega) (.inl rfl)
        · exact hi _ _ (by omega) (by omega) (.inr rfl)
  unfold tM at hs
  rw [List.mem_append] at hs
  rcases hs with hs | hs
  · simp only [List.mem_cons, List.not_mem_nil, or_false] at hs
    rcases hs with rfl | rfl | rfl | rfl
    · exact hi _ _ (by omega) (by omega) (.inl rfl)
    · exact hi _ _ (by omega) (by omega) (.inr rfl)
    · exact hi _ _ (by omega) (by omega) (.inl rfl)
    · exact hi _ _ (by omega) (by omega) (.inr rfl)
  · exact ho k hk s hs
theorem tS_sub {a b : Int} {k : Nat} : ∀ s ∈ tS a b k, s ∈ tM a b k := fun s hs => by
  unfold tS at hs
  unfold tM
  simp only [List.mem_append, List.mem_cons, List.not_mem_nil, or_false] at hs ⊢
  rcases hs with (h | h) | h
  · exact .inl (.inl h)
  · exact .inl (.inr (.inr (.inr h)))
  · exact .inr h
theorem check_ok {w : World} {ov mv sv wv : Value} {L : List Off} {M : List Seat} {most : Int} {l W : List Seat} (hc : CatIn w ov mv L M) (hs : RowIn Seat.cells w sv l) (hw : RowIn Seat.cells w wv W) (hl : l.length ≤ 1000000) (hwf : ∀ x ∈ l, x.wf) (hok : OkS L M most l) :
    Calls Try.prog 5 #[ov, mv, .int .i64 most, .agg #[sv, wv]] w fun e w' => e = .returned (.int .i64 0) ∧ RowKit.Below w.heap.size w w' := by
  have := check_any ov mv sv wv L M most l W w hc hs hw hl hwf
  rwa [checkP_ok.2 hok] at this
theorem has_ok {w : World} {v : Value} {l : List Seat} {st : Int} {c : ByteArray} (h : RowIn Seat.cells w v l) (hl : l.length ≤ 1000000) (hm : (⟨st, c⟩ : Seat) ∈ l) :
    Calls Try.prog 7 #[v, .agg #[.int .i64 st, .string c]] w fun e w' => e = .returned (.bool true) ∧ RowKit.Below w.heap.size w w' := by
  have := has29_any v l ⟨st, c⟩ w h hl
  rwa [decide_eq_true hm] at this
theorem trade_two {w : World} {ov mv lv dv : Value} {L : List Off} {M : List Seat} {most : Int} {a b : Int} {k n : Nat} (hC : CatIn w ov mv L M) (hl : ReqsIn w lv (twoR a b 1)) (hd : DealIn w dv (dl0 a b k)) (hwf : ∀ x ∈ (dl0 a b k).seats, x.wf) (hok : OkS L M most (dl1 a b k).seats)
    (hab : a ≠ b) (ha0 : 1 ≤ a) (ha1 : a ≤ 1000) (hb0 : 1 ≤ b) (hb1 : b ≤ 1000) (hn : (dl1 a b k).seats.length = n) :
    Calls Try.prog 6 #[ov, mv, .int .i64 most, lv, dv] w fun e w' => ∃ p c q e', e = .returned (.agg #[.slice p n c, .slice q 0 e']) ∧ RowIn Seat.cells w' (.slice p n c) (dl1 a b k).seats ∧ RowKit.Below w.heap.size w w' := by
  refine (trade_to hC hl (by show 2 ≤ 200; omega) (two_fits ha0 ha1 hb0 hb1 (by decide) (by decide)) hd hwf (fun T h hT => two_reach hab ha0 ha1 hb0 hb1 (by decide) (by decide) hok h hT)).mono ?_
  rintro _ w' ⟨v, rfl, hv, hb⟩
  obtain ⟨p, c, q, e', rfl, h1, h2⟩ := hv.val
  subst hn
  exact ⟨p, c, q, e', rfl, h1, hb⟩
set_option maxHeartbeats 4000000 in
set_option maxRecDepth 100000 in
theorem two_law (q0 q1 n0 x0 y0 : Nat) (w : World) (hq0 : q0 ≤ 65535) (hq1 : q1 ≤ 65535) (hn0 : n0 ≤ 255) (hx0 : x0 ≤ 255) (hy0 : y0 ≤ 255) :
    Calls Try.prog 3 #[.agg #[.int .u16 q0, .int .u16 q1], .int .u8 n0, .agg #[.int .u8 x0, .int .u8 y0]] w fun e w' => e = .returned (.bool true) ∧ RowKit.Below w.heap.size w w' := by
  have hb0 := (below_alloc1 w (.cells #[.int .u16 q0, .int .u16 q1] 23)).alloc (by simp) (.cells #[.int .u8 x0, .int .u8 y0] 24)
  have hx3 : ((w.alloc (.cells #[.int .u16 q0, .int .u16 q1] 23)).alloc (.cells #[.int .u8 x0, .int .u8 y0] 24)).heap[w.heap.size]? = some (.cells #[.int .u16 q0, .int .u16 q1] 23 (0, 0)) := by rw [(below_alloc1 _ _).block _ (by simp)]; exact heap_alloc_new w _
  have hx5 := new_two w (.cells #[.int .u16 q0, .int .u16 q1] 23) (.cells #[.int .u8 x0, .int .u8 y0] 24)
  go_enter Try.func3, Try.ntmps3
  go_upto_region 1 with fail
  generalize World.alloc _ _ = w1 at hb0 hx3 hx5 ⊢
  go_wp2_with fail
  refine (sw_sanity_any w1).mono ?_
  rintro _ w2 ⟨rfl, hb⟩
  replace hx3 := (hb.block _ (lt_of_heap hx3)).trans hx3
  replace hx5 := (hb.block _ (lt_of_heap hx5)).trans hx5
  replace hb0 := below_next hb0 hb
  clear hb
  go_upto_region 2 with fail
  have hc3 : ∀ j, w2.cell? ⟨w.heap.size, j, none⟩ = (#[.int .u16 q0, .int .u16 q1] : Array Value)[j]? := fun j => Lib.cell_of_heap hx3 j
  go_quiet (fail)
  have hb2 : RowKit.Below w2.heap.size w2 (w2.drewN nq) := blw_drewN (Below.refl _ _) nq
  generalize w2.drewN nq = w3 at hb2 ⊢
  replace hx5 := (hb2.block _ (lt_of_heap hx5)).trans hx5
  replace hb0 := below_next hb0 hb2
  clear hc3 hx3 hb2
  obtain ⟨a, ha⟩ : ∃ a : Int, 1 + (q0 : Int) % 1000 = a := ⟨_, rfl⟩
  obtain ⟨b, hb⟩ : ∃ b : Int, 1 + (q1 : Int) % 1000 = b := ⟨_, rfl⟩
  have ha0 : 1 ≤ a := by omega
  have ha1 : a ≤ 1000 := by omega
  have hb00 : 1 ≤ b := by omega
  have hb1 : b ≤ 1000 := by omega
  rw [ha, hb]
  clear ha hb
  by_cases hab : a = b
  · subst hab
    have ht : (a == a) = true := by simp
    go_wp2_with fail
    go_ret
    exact ⟨ret_bool rfl, hb0⟩
  have ht : (a == b) = false := by simpa using hab
  go_upto_region 5 with fail
  clear ht
  have HAB := Lib.hid hab
  clear hab
  go_upto_region 6 with fail
  obtain ⟨n, hn⟩ : ∃ n : Nat, n0 % 5 = n := ⟨_, rfl⟩
  rw [show (n0 : Int) % 5 = (n : Int) by omega]
  have hn4 : n ≤ 4 := by omega
  clear hn hn0
  have hc5 : ∀ j, w3.cell? ⟨w.heap.size + 1, j, none⟩ = (#[.int .u8 x0, .int .u8 y0] : Array Value)[j]? := fun j => Lib.cell_of_heap hx5 j
  go_quiet (fail)
  have hb2 : RowKit.Below w3.heap.size w3 (w3.drewN nq) := blw_drewN (Below.refl _ _) nq
  generalize w3.drewN nq = w4 at hb2 ⊢
  replace hb0 := below_next hb0 hb2
  clear hc5 hx5 hb2
  obtain ⟨x, hx⟩ : ∃ a : Int, 1 + (x0 : Int) % 60 = a := ⟨_, rfl⟩
  obtain ⟨y, hy⟩ : ∃ b : Int, 1 + (y0 : Int) % 60 = b := ⟨_, rfl⟩
  have x0' : 1 ≤ x := by omega
  have x1' : x ≤ 60 := by omega
  have y0' : 1 ≤ y := by omega
  have y1' : y ≤ 60 := by omega
  rw [hx, hy]
  clear hx hy hx0 hy0 hq0 hq1
  obtain ⟨hC, hb⟩ := cat_new w4 x y ((n : Int) + 1)
  have HC := Lib.hid hC
  replace hb0 := below_next hb0 hb
  clear hC hb
  go_upto_region 8 with fail
  generalize World.alloc _ _ = wc at HC hb0 ⊢
  obtain ⟨po, hpo⟩ : ∃ p : Option Addr, some ⟨w4.heap.size + 1 + 1, 0, none⟩ = p := ⟨_, rfl⟩
  rw [hpo] at HC ⊢
  clear hpo
  have hst := tw_start wc a b
  go_upto_region 10 with fail
  generalize World.alloc _ _ = wd at hst ⊢
  have HST : Hid _ := Lib.hid hst
  clear hst
  obtain ⟨bw, hbw⟩ : ∃ q, wc.heap.size + 1 + 1 = q := ⟨_, rfl⟩
  obtain ⟨bd, hbd⟩ : ∃ q, wc.heap.size + 1 + 1 + 1 = q := ⟨_, rfl⟩
  rw [hbd] at HST ⊢
  rw [hbw] at HST
  clear hbw hbd
  go_wp2_with fail
  go_loopw [14, 16] (fun vm vk wr => ∃ (k : Nat) (X Y : List Seat) (pm : Option Addr) (cm : Nat) (ps : Option Addr) (cs : Nat), k ≤ n ∧ vk = .int .i64 k ∧ vm = .slice pm X.length cm ∧ Hid (X = tM a b k) ∧ Hid (Y = tS a b k) ∧ Hid (TwSt wc X Y a b bw bd (.slice pm X.length cm) (.slice ps Y.length cs) wr)) (fun _ vk _ => n - (RowKit.intOf vk).toNat)
  case atStart => exact ⟨0, tM a b 0, tS a b 0, _, _, _, _, Nat.zero_le _, rfl, rfl, Lib.hid rfl, Lib.hid rfl, HST⟩
  case round =>
    clear HST
    obtain ⟨k, X, Y, pm, cm, ps, cs, hk, rfl, rfl, HX, HY, HT⟩ := hrel
    by_cases hlt : k < n
    · have hlX : Hid (X.length ≤ 1000) := Lib.hid (by rw [HX.out, tM_len]; omega)
      have hlY : Hid (Y.length ≤ 1000) := Lib.hid (by rw [HY.out, tS_len]; omega)
      have hlit := rowIn_lit (enc := Seat.cells) (e := 32) wr [⟨2000 + k, cA⟩, ⟨2000 + k, cB⟩] #[.int .i64 (2000 + k), .string cA, .int .i64 (2000 + k), .string cB] wr.heap.size rfl rfl 2 rfl
      have h1 := HT.out.next (below_alloc1 wr (.cells #[.int .i64 (2000 + k), .string cA, .int .i64 (2000 + k), .string cB] 32))
      have hlow := h1.below.size
      go_wp2_with (at_builtin; first
        | (refine wpList_append_row seatT rfl (.tmp 83) (.tmp 90) rfl wc.heap.size (.slice pm X.length cm) _ X [⟨2000 + k, cA⟩, ⟨2000 + k, cB⟩] rfl rfl h1.met hlit (by have := hlX.out; simp; omega) hlow ?_
           intro v9 w9 hA9
           obtain ⟨p9, c9, rfl⟩ := own_form hA9.own
           have h9 := h1.meet hA9
           have hc9 : w9.cell? ⟨bd, 0, none⟩ = some (.slice ps Y.length cs) := Lib.cell_of_heap h9.box 0
           have hlit9 := rowIn_lit (enc := Seat.cells) (e := 32) w9 [⟨2000 + k, cA⟩, ⟨2000 + k, cB⟩] #[.int .i64 (2000 + k), .string cA, .int .i64 (2000 + k), .string cB] w9.heap.size rfl rfl 2 rfl
           have h10 := h9.next (below_alloc1 w9 (.cells #[.int .i64 (2000 + k), .string cA, .int .i64 (2000 + k), .string cB] 32))
           have hlow9 := h10.below.size)
        | (refine wpList_append_row seatT rfl (.tmp 93) (.tmp 100) rfl wc.heap.size (.slice ps Y.length cs) _ Y [⟨2000 + k, cA⟩, ⟨2000 + k, cB⟩] rfl rfl h10.seats hlit9 (by have := hlY.out; simp; omega) hlow9 ?_
           intro v10 w10 hA10
           obtain ⟨p10, c10, rfl⟩ := own_form hA10.own
           have hxA := (hA10.grown.block bd h10.ld (fun e => (h10.apart2 bd e.symm).2 rfl)).trans h10.box
           have hcA : w10.cell? ⟨bd, 0, none⟩ = some (.slice ps Y.length cs) := Lib.cell_of_heap hxA 0
           have hfA : w10.frozen? ⟨bd, 0, none⟩ = false := Lib.frozen_of_heap hxA 0))
      have h11 := h10.seat hA10
      have HX' : Hid (X ++ [⟨2000 + k, cA⟩, ⟨2000 + k, cB⟩] = tM a b (k + 1)) := Lib.hid (by rw [tM_succ, HX.out])
      have HY' : Hid (Y ++ [⟨2000 + k, cA⟩, ⟨2000 + k, cB⟩] = tS a b (k + 1)) := Lib.hid (by rw [tS_succ, HY.out])
      go_roundw
      case rel => exact ⟨k + 1, X ++ [⟨2000 + k, cA⟩, ⟨2000 + k, cB⟩], Y ++ [⟨2000 + k, cA⟩, ⟨2000 + k, cB⟩], p9, c9, p10, c10, by omega, by go_num, by simp, HX', HY', Lib.hid (by simpa using h11)⟩
      case measure => simp [RowKit.intOf]; omega
    · obtain rfl : k = n := by omega
      have hT := HT.out
      have HXE := Lib.hid HX.out
      have hYl : Y.length = 2 + 2 * k := by rw [HY.out, tS_len]
      obtain ⟨ny, hny⟩ : ∃ ny, Y.length = ny := ⟨_, rfl⟩
      have HNY : Hid (Y.length = ny) := Lib.hid hny
      have hcat := (HC.out.below hT.below).meet (rowIn_own seatT.len seatT.pos hT.met) (by rw [HX.out]; exact two_wf ha0 ha1 hb00 hb1 (by omega)) (by rw [HX.out, tM_len]; omega)
      have hsr : RowIn Seat.cells wr (.slice ps Y.length cs) Y := rowIn_own seatT.len seatT.pos hT.seats
      have hx5 := hT.box
      have hwr := hT.waits
      have hbw := below_next hb0 hT.below
      have hok := base_ok (L := twoL w4.heap.size (w4.heap.size + 1) x y ((k : Int) + 1)) (M := tM a b k) (most := x + y) (n := k) rfl x0' x1' y0' y1' rfl (Int.le_refl _) HAB.out ha0 ha1 hb00 hb1 (by omega) (by unfold tM; simp) (by unfold tM; simp) (by unfold tM; simp) (by unfold tM; simp) (fun i hi => ⟨List.mem_append_right _ (oth_mem k i hi).1, List.mem_append_right _ (oth_mem k i hi).2⟩)
      have HOK := Lib.hid hok
      have hwfY : ∀ s ∈ Y, s.wf := fun s hs => two_wf ha0 ha1 hb00 hb1 (k := k) (by omega) s (tS_sub s (by rw [← HY.out]; exact hs))
      have HWF := Lib.hid hwfY
      rw [hny] at hsr hx5
      rw [hny] at hYl
      obtain ⟨nx, hnx⟩ : ∃ nx, X.length = nx := ⟨_, rfl⟩
      rw [hnx] at hcat ⊢
      rw [HX.out] at hcat
      have HYE := Lib.hid HY.out
      have HCT := Lib.hid hcat
      have HSR := Lib.hid hsr
      have HWR := Lib.hid hwr
      have HBW := Lib.hid hbw
      have HYL := Lib.hid hYl
      clear hnx hny hYl hcat hsr hwr hbw hok hwfY HT HC hT HX HY HXE hlt hk hb0
      go_upto_region 16 with fail
      have hlq := reqs_lit (e := 37) wr (twoR a b 1) #[.int .i64 1, .int .i64 1, .bool false, .int .i64 a, .int .i64 1, .string cB, .string cA, .int .i64 0, .int .i64 0, .int .i64 1, .int .i64 2, .bool false, .int .i64 b, .int .i64 1, .string cA, .string cB, .int .i64 0, .int .i64 0] wr.heap.size rfl rfl 2 rfl
      have hb6 := below_alloc1 wr (.cells #[.int .i64 1, .int .i64 1, .bool false, .int .i64 a, .int .i64 1, .string cB, .string cA, .int .i64 0, .int .i64 0, .int .i64 1, .int .i64 2, .bool false, .int .i64 b, .int .i64 1, .string cA, .string cB, .int .i64 0, .int .i64 0] 37)
      obtain ⟨pl, hpl⟩ : ∃ p : Option Addr, some ⟨wr.heap.size, 0, none⟩ = p := ⟨_, rfl⟩
      rw [hpl] at hlq ⊢
      clear hpl
      generalize wr.alloc _ = we at hlq hb6 ⊢
      have HLQ := Lib.hid hlq
      have hx6 := (hb6.block _ (lt_of_heap hx5)).trans hx5
      have HCT6 := Lib.hid (HCT.out.below hb6)
      have HSR6 := Lib.hid (HSR.out.below hb6)
      have HWR6 := Lib.hid (HWR.out.below hb6)
      have HBW6 := Lib.hid (below_next HBW.out hb6)
      have HOKY : Hid (OkS (twoL w4.heap.size (w4.heap.size + 1) x y ((k : Int) + 1)) (tM a b k) (x + y) Y) := Lib.hid (by rw [HYE.out]; exact HOK.out.1)
      clear hlq hb6 hx5 HCT HSR HWR HBW
      have hcd : ∀ j, we.cell? ⟨bd, j, none⟩ = (#[.slice ps ny cs, .slice (some ⟨bw, 0, none⟩) 2 2] : Array Value)[j]? := fun j => Lib.cell_of_heap hx6 j
      go_wp2_with fail
      refine (check_ok HCT6.out HSR6.out HWR6.out (by have := HNY.out; have := HYL.out; omega) HWF.out HOKY.out).mono ?_
      rintro _ w7 ⟨rfl, hb⟩
      have hx7 := (hb.block _ (lt_of_heap hx6)).trans hx6
      have HCT7 := Lib.hid (HCT6.out.below hb)
      have HLQ7 := Lib.hid (HLQ.out.below hb)
      have HSR7 := Lib.hid (HSR6.out.below hb)
      have HWR7 := Lib.hid (HWR6.out.below hb)
      have HBW7 := Lib.hid (below_next HBW6.out hb)
      clear hb hcd hx6 HCT6 HSR6 HWR6 HBW6 HLQ
      have hcd : ∀ j, w7.cell? ⟨bd, j, none⟩ = (#[.slice ps ny cs, .slice (some ⟨bw, 0, none⟩) 2 2] : Array Value)[j]? := fun j => Lib.cell_of_heap hx7 j
      go_wp2_with fail
      have hdl : DealIn w7 (.agg #[.slice ps ny cs, .slice (some ⟨bw, 0, none⟩) 2 2]) (dl0 a b k) := DealIn.mk' (by have h := HSR7.out; rw [HYE.out] at h; exact h) HWR7.out (by show (tS a b k).length ≤ 1000000; rw [tS_len]; omega) (by show 2 ≤ 1000000; omega)
      refine (trade_two HCT7.out HLQ7.out hdl (fun s hs => HWF.out s (by rw [HYE.out]; exact hs)) HOK.out.2 HAB.out ha0 ha1 hb00 hb1 (n := ny) (by rw [HYL.out]; show (_ ++ oth k).length = _; rw [List.length_append, oth_len]; rfl)).mono ?_
      rintro _ w8 ⟨p, c, q, e', rfl, hrow, hb⟩
      have hb8 := below_alloc1 w8 (.cells #[.slice p ny c, .slice q 0 e'] 35)
      have hx18 := heap_alloc_new w8 (.cells #[.slice p ny c, .slice q 0 e'] 35)
      have hx15 := ((below_next hb hb8).block _ (lt_of_heap hx7)).trans hx7
      have HROW := Lib.hid (hrow.below hb8)
      have HBW9 := Lib.hid (below_next HBW7.out (below_next hb hb8))
      clear hdl hcd hrow hb hb8 hx7
      go_upto_region 19 with fail
      obtain ⟨b18, hb18⟩ : ∃ q, w8.heap.size = q := ⟨_, rfl⟩
      rw [hb18] at hx18 ⊢
      generalize w8.alloc _ = w9 at hx18 hx15 HROW HBW9 ⊢
      clear hb18
      have hc18 : ∀ j, w9.cell? ⟨b18, j, none⟩ = (#[.slice p ny c, .slice q 0 e'] : Array Value)[j]? := fun j => Lib.cell_of_heap hx18 j
      have hc15 : ∀ j, w9.cell? ⟨bd, j, none⟩ = (#[.slice ps ny cs, .slice (some ⟨bw, 0, none⟩) 2 2] : Array Value)[j]? := fun j => Lib.cell_of_heap hx15 j
      go_wp2_with fail
      have HD1L : Hid ((dl1 a b k).seats.length ≤ 1000000) := Lib.hid (by show (_ ++ oth k).length ≤ _; rw [List.length_append, oth_len]; simp; omega)
      refine (has_ok HROW.out HD1L.out (by show (⟨a, cB⟩ : Seat) ∈ [(⟨a, cB⟩ : Seat), ⟨b, cA⟩] ++ oth k; simp)).mono ?_
      rintro _ wA ⟨rfl, hb⟩
      replace hx18 := (hb.block _ (lt_of_heap hx18)).trans hx18
      replace hx15 := (hb.block _ (lt_of_heap hx15)).trans hx15
      have HROWA := Lib.hid (HROW.out.below hb)
      have HBWA := Lib.hid (below_next HBW9.out hb)
      clear hb hc18 hc15 HROW HBW9
      have hc18 : ∀ j, wA.cell? ⟨b18, j, none⟩ = (#[.slice p ny c, .slice q 0 e'] : Array Value)[j]? := fun j => Lib.cell_of_heap hx18 j
      have hc15 : ∀ j, wA.cell? ⟨bd, j, none⟩ = (#[.slice ps ny cs, .slice (some ⟨bw, 0, none⟩) 2 2] : Array Value)[j]? := fun j => Lib.cell_of_heap hx15 j
      go_wp2_with fail
      refine (has_ok HROWA.out HD1L.out (by show (⟨b, cA⟩ : Seat) ∈ [(⟨a, cB⟩ : Seat), ⟨b, cA⟩] ++ oth k; simp)).mono ?_
      rintro _ wB ⟨rfl, hb⟩
      replace hx18 := (hb.block _ (lt_of_heap hx18)).trans hx18
      replace hx15 := (hb.block _ (lt_of_heap hx15)).trans hx15
      have HBWB := Lib.hid (below_next HBWA.out hb)
      clear hb hc18 hc15 HROWA HBWA
      have hc18 : ∀ j, wB.cell? ⟨b18, j, none⟩ = (#[.slice p ny c, .slice q 0 e'] : Array Value)[j]? := fun j => Lib.cell_of_heap hx18 j
      have hc15 : ∀ j, wB.cell? ⟨bd, j, none⟩ = (#[.slice ps ny cs, .slice (some ⟨bw, 0, none⟩) 2 2] : Array Value)[j]? := fun j => Lib.cell_of_heap hx15 j
      have hte : ((ny : Int) == (ny : Int)) = true := by simp
      go_wp2_with fail
      go_ret
      exact ⟨ret_bool rfl, HBWB.out⟩
end Go.Proofs.Ytjcogpalmgcpbaa
