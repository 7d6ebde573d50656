/- slices.Values over requests: the iterator gives the list. -/
import Derived.Test.YtbihaoadgcckhaaGreatMkCm
namespace Go.Proofs.YtbihaoadgcckhaaGreat
open Go Go.Proofs Go.RowKit Go.Maps Go.Sort Go.Lib
attribute [local go_sem] Req.cells

set_option maxRecDepth 100000 in
set_option maxHeartbeats 2000000 in
theorem values1_in (F : Fence) (n : Nat) (h10 : F.fn 54) (hro : F.round = none) (hn : 1 ≤ n) (l Bm : Nat) (v : Value) (L : List Req) (J : List Req → World → Prop)
    (hY : ∀ pre x W, J pre W → pre.length < L.length → YieldAt F (n - 1) Tryz.prog l #[x.val] W fun e W' => e = .returned (.bool true) ∧ J (pre ++ [x]) W' ∧ KeepsWalks W W')
    (W0 W : World) (hW : RowKit.Below W0.heap.size W0 W) (hJ : AbidesFrom W.heap.size J) (hJk : ∀ pre W1, J pre W1 → RowKit.Below W0.heap.size W0 W1) (hm : W0.cell? ⟨Bm, 0, none⟩ = some v) (hBm : Bm < W0.heap.size) (hv : ReqsIn W0 v L) (hlL : L.length ≤ 1000000) (h0 : J [] W) :
    CallsIn F n Tryz.prog 54 #[.func (.yield l) #[] #[], .pointer (some ⟨Bm, 0, none⟩)] W fun e W' => (∃ v, e = .returned v) ∧ ∃ ks : List Req, ks = L ∧ J ks W' := by
  obtain ⟨p, c, rfl, _⟩ := hv.form
  have hmW : W.cell? ⟨Bm, 0, none⟩ = some (.slice p L.length c) := (hW.cell (p := ⟨Bm, 0, none⟩) hBm).trans hm
  refine callsIn_of_wp Tryz.func54 rfl h10 ?_ hro
  simp only [Tryz.ntmps54, List.size_toArray, List.length_cons, List.length_nil, Nat.reduceAdd, Nat.reduceSub, Array.replicate_succ, Array.replicate_zero, List.push_toArray, List.append_toArray, List.nil_append, List.cons_append]
  gi_wp2
  gi_loopw [7] (fun i wr => ∃ k : Nat, k ≤ L.length ∧ i = .int .i64 k ∧ J (L.take k) wr) (fun i _ => L.length - (RowKit.intOf i).toNat)
  case atStart => exact ⟨0, Nat.zero_le _, rfl, h0⟩
  case round =>
    obtain ⟨k, hk, rfl, hJs⟩ := hrel
    have hbw := hJk _ _ hJs
    by_cases hlt : k < L.length
    · obtain ⟨b, o, c', hv', _, hbl, hx⟩ := hv.at_ (by omega)
      have e1 := (Value.slice.inj hv').1
      subst e1
      have hz := List.getElem?_eq_getElem hlt
      have hat := (hx k _ hz).below hbw hbl
      have hJ3 := hJ _ wr (wr.alloc (.cells (Req.cells L[k]) 39)) none hJs (World.grownBy_alloc wr _ none) (fun r e => by cases e)
      obtain ⟨fn, tmps, assign, body, hy, hR⟩ := hY (L.take k) L[k] (wr.alloc (.cells (Req.cells L[k]) 39)) hJ3 (by simp; omega)
      rw [← take_one hz] at hR
      generalize L[k] = x at hat hJ3 hy hR
      simp only [Req.val, Req.cells] at hy
      have c0 := hat 0 _ rfl
      have c1 := hat 1 _ rfl
      have c2 := hat 2 _ rfl
      have c3 := hat 3 _ rfl
      have c4 := hat 4 _ rfl
      have c5 := hat 5 _ rfl
      have c6 := hat 6 _ rfl
      have c7 := hat 7 _ rfl
      have c8 := hat 8 _ rfl
      rw [Nat.add_zero] at c0
      clear hat
      gi_wp2
      refine hR.mono ?_
      rintro e W3 ⟨rfl, hJ4, hk3⟩
      gi_wp2
      go_roundw
      case rel => exact ⟨k + 1, by omega, by go_num, hJ4⟩
      case measure => simp [RowKit.intOf]; omega
    · obtain rfl : k = L.length := by omega
      rw [List.take_length] at hJs
      gi_wp2
      go_end0
      exact ⟨⟨_, rfl⟩, L, rfl, hJs⟩
theorem values_in (F : Fence) (n : Nat) (h7 : F.fn 28) (hro : F.round = none) (p : Option Addr) (m c : Nat) (w : World) :
    CallsIn F n Tryz.prog 28 #[.slice p m c] w fun e w' => e = .returned (.func (.func 54) #[] #[.pointer (some ⟨w.heap.size, 0, none⟩)]) ∧ w' = w.alloc (.cells #[.slice p m c] 30) := by
  refine callsIn_of_wp Tryz.func28 rfl h7 ?_ hro
  simp only [Tryz.ntmps28, List.size_toArray, List.length_cons, List.length_nil, Nat.reduceAdd, Nat.reduceSub, Array.replicate_succ, Array.replicate_zero, List.push_toArray, List.append_toArray, List.nil_append, List.cons_append]
  gi_wp2
  go_ret
  exact ⟨rfl, rfl⟩
theorem values_gives (F : Fence) (n : Nat) (h10 : F.fn 54) (hro : F.round = none) (hn : 1 ≤ n) (Bm : Nat) (v : Value) (L : List Req) (w : World) (hBm : Bm < w.heap.size)
    (hm : w.cell? ⟨Bm, 0, none⟩ = some v) (hv : ReqsIn w v L) (hlL : L.length ≤ 1000000) :
    SeqGivesB F n Tryz.prog 54 #[.pointer (some ⟨Bm, 0, none⟩)] Req.val (fun ks => ks = L) L.length w := fun l J W hW hJ hJk hY h0 =>
  values1_in F n h10 hro hn l Bm v L J hY w W hW hJ hJk hm hBm hv hlL h0
theorem insB_any (blk off cap a b : Nat) (d : Array Req) (w : World) (hH : HoldsK encR 9 w blk off d) (hblk : blk < w.heap.size) (hab : a ≤ b) (hb : b ≤ d.size) (hsz : d.size < 4611686018427387904) :
    Calls Tryz.prog 97 #[.slice (some ⟨blk, off, none⟩) d.size cap, .int .i64 a, .int .i64 b, .func (.func 29) #[] #[]] w fun e w' =>
      e = .returned (.tuple #[]) ∧ ∃ n os, w' = sortWorldK encR 9 w blk off n (Go.Sort.insertionSort (ltOf cmpB) d a b) os :=
  AnyQ.insertionSortCmpFunc (P := Tryz.prog) (ρ := Tryz.sortReq_ren) { Tryz.sortReq with } 9 Tryz.isAgg39 Tryz.sizeOf39 encR (fun _ => rfl) (fun x v hv => by
      simp [encR, Req.cells] at hv
      rcases hv with rfl | rfl | rfl | rfl | rfl | rfl | rfl | rfl | rfl <;> rfl) cmpB 29 #[] blk off cap a b d w (enters_of Tryz.func29 (by kernel_rfl) rfl)
    (fun m os dk _ x y => compareB_any x y _) hH hblk hab hb hsz
/-- What a stable sort is asked for, up to N requests. -/
def SortsB (N : Nat) : Prop := ∀ (blk cap : Nat) (ks : List Req) (W : World), HoldsK encR 9 W blk 0 ks.toArray → blk < W.heap.size → ks.length ≤ N →
    Calls Tryz.prog 53 #[.slice (some ⟨blk, 0, none⟩) ks.length cap, .func (.func 29) #[] #[]] W fun e w' => e = .returned (.tuple #[]) ∧ ∃ k os ts, w' = sortWorldK encR 9 W blk 0 k (List.toArray ts) os ∧ ts.Perm ks ∧ ts.Pairwise fun a b => ltOf cmpB b a = false
theorem ins_list (ks : List Req) : ∃ ts : List Req, Go.Sort.insertionSort (ltOf cmpB) ks.toArray 0 ks.length = ts.toArray ∧ ts.Perm ks ∧ ts.Pairwise fun a b => ltOf cmpB b a = false := by
  obtain ⟨⟨h1, _, h3⟩, h4⟩ := insertionSort_holds (lt := ltOf cmpB) swoB ks.toArray 0 ks.length (Nat.zero_le _) (by simp)
  generalize Go.Sort.insertionSort (ltOf cmpB) ks.toArray 0 ks.length = d at h1 h3 h4
  obtain ⟨ts⟩ := d
  have hl : ts.length = ks.length := by simpa using h1
  refine ⟨ts, rfl, ?_, ?_⟩
  · have e1 : (List.toArray ts).extract 0 ks.length = List.toArray ts := by rw [← hl]; simp
    have e2 : ks.toArray.extract 0 ks.length = ks.toArray := by simp
    rw [e1, e2] at h3
    exact h3
  · rw [List.pairwise_iff_getElem]
    intro i j hi hj hij
    have := h4 i j (Nat.zero_le _) hij (by omega)
    rw [getElem!_pos _ _ (by simpa using hj), getElem!_pos _ _ (by simpa using hi)] at this
    simpa using this
theorem insB_none (p : Option Addr) (cap : Nat) (W : World) :
    Calls Tryz.prog 97 #[.slice p 0 cap, .int .i64 0, .int .i64 0, .func (.func 29) #[] #[]] W fun e w' => e = .returned (.tuple #[]) ∧ w' = W :=
  AnyF.insertionSortCmpFunc_none (P := Tryz.prog) (ρ := Tryz.sortReq_ren) { Tryz.sortReq with } p cap _ W
/-- .. of one insertion sort. -/
theorem stable_few (p : Option Addr) (n cap : Nat) (W : World) (Q : World → Prop) (hn : n ≤ 19)
    (ci : Calls Tryz.prog 97 #[.slice p n cap, .int .i64 0, .int .i64 n, .func (.func 29) #[] #[]] W fun e w' => e = .returned (.tuple #[]) ∧ Q w') :
    Calls Tryz.prog 53 #[.slice p n cap, .func (.func 29) #[] #[]] W fun e w' => e = .returned (.tuple #[]) ∧ Q w' := by
  have hs : Calls Tryz.prog 74 #[.slice p n cap, .int .i64 n, .func (.func 29) #[] #[]] W fun e w' => e = .returned (.tuple #[]) ∧ Q w' := by
    have h20 : decide ((20 : Int) ≤ (n : Int)) = false := by rw [decide_eq_false_iff_not]; omega
    have h20' : decide ((20 : Int) < (n : Int)) = false := by rw [decide_eq_false_iff_not]; omega
    go_enter Tryz.func74, Tryz.ntmps74
    go_wp2_with fail
    refine wp_loop_rounds 1 ?_
    rw [rounds_succ]
    go_wp2_with fail
    refine ci.mono ?_
    rintro _ w1 ⟨rfl, hQ⟩
    go_wp2_with fail
    refine wp_loop_rounds 1 ?_
    rw [rounds_succ]
    go_wp2_with fail
    exact ⟨rfl, _, results_none rfl _ _ _, rfl, hQ⟩
  go_enter Tryz.func53, Tryz.ntmps53
  go_wp2_with fail
  refine hs.mono ?_
  rintro _ w1 ⟨rfl, hQ⟩
  go_wp2_with fail
  exact ⟨rfl, _, results_none rfl _ _ _, rfl, hQ⟩
theorem stable_none (p : Option Addr) (cap : Nat) (W : World) :
    Calls Tryz.prog 53 #[.slice p 0 cap, .func (.func 29) #[] #[]] W fun e w' => e = .returned (.tuple #[]) ∧ w' = W :=
  stable_few p 0 cap W (fun w' => w' = W) (by omega) (insB_none p cap W)
theorem sortsB_19 : SortsB 19 := fun blk cap ks W hH hblk hl => by
  obtain ⟨ts, h1, h2, h3⟩ := ins_list ks
  have ci := insB_any blk 0 cap 0 ks.length ks.toArray W hH hblk (Nat.zero_le _) (by simp) (by simp; omega)
  rw [h1] at ci
  simp only [List.size_toArray] at ci
  exact stable_few (some ⟨blk, 0, none⟩) ks.length cap W (fun w' => ∃ k os ts, w' = sortWorldK encR 9 W blk 0 k (List.toArray ts) os ∧ ts.Perm ks ∧ ts.Pairwise fun a b => ltOf cmpB b a = false) hl
    (ci.mono fun e w' ⟨he, n, os, hw⟩ => ⟨he, n, os, ts, hw, h2, h3⟩)
theorem wide_fn (f : FuncId) : Fence.wide.fn f := by trivial
theorem collect_any (g : Nat) (lb : Array Value) (eg : ∀ args w, (callFunc g args).run Tryz.prog w = .ok (.enter g args) w) (S : List Req → Prop) (N : Nat) (hN : N ≤ 1000000) (w : World) (hseq : SeqGivesB Fence.wide 1 Tryz.prog g lb Req.val S N w) :
    Calls Tryz.prog 52 #[.func (.func g) #[] lb] w fun e w' => ∃ (v : Value) (ks : List Req), e = .returned v ∧ S ks ∧ w'.ownsRow w.heap.size 39 9 v ks.length (reqCells ks) ∧ (v = .slice none 0 0 ↔ ks = []) ∧ RowKit.Below w.heap.size w w' :=
  callsIn_wide.1 (collect_in Fence.wide 3 (wide_fn _) (wide_fn _) rfl (by omega) g lb (wide_fn _) eg S N (by unfold maxLen; omega) (by omega) w hseq)
set_option maxRecDepth 100000 in
theorem sortedStable_any (N : Nat) (hS : SortsB N) (hN : N ≤ 1000000) (Bm : Nat) (v : Value) (L : List Req) (w : World) (hBm : Bm < w.heap.size) (hm : w.cell? ⟨Bm, 0, none⟩ = some v) (hv : ReqsIn w v L) (hl : L.length ≤ N) :
    Calls Tryz.prog 27 #[.func (.func 54) #[] #[.pointer (some ⟨Bm, 0, none⟩)], .func (.func 29) #[] #[]] w fun e w' => ∃ (v : Value) (ts : List Req), e = .returned v ∧ ts.Perm L ∧ (ts.Pairwise fun a b => ltOf cmpB b a = false) ∧
      w'.ownsRow w.heap.size 39 9 v ts.length (reqCells ts) ∧ RowKit.Below w.heap.size w w' := by
  have hseq := values_gives Fence.wide 1 (wide_fn _) rfl (by omega) Bm v L w hBm hm hv (by omega)
  have hc := collect_any 54 #[.pointer (some ⟨Bm, 0, none⟩)] (enters_of Tryz.func54 (by kernel_rfl) rfl) (fun ks => ks = L) L.length (by omega) w hseq
  clear hseq hm hv
  go_enter Tryz.func27, Tryz.ntmps27
  go_wp2_with fail
  refine hc.mono ?_
  rintro _ w1 ⟨v1, ks, rfl, rfl, hrow, hnil, hb⟩
  rcases hrow.2 with ⟨rfl, hz⟩ | ⟨gb, cap, cur, rfl, hbase, hgb, r1, r2, r3, r4⟩
  · obtain rfl : ks = [] := List.eq_nil_of_length_eq_zero hz
    go_wp2_with fail
    refine (stable_none none 0 w1).mono ?_
    rintro _ _ ⟨rfl, rfl⟩
    go_wp2_with fail
    go_ret
    exact ⟨_, [], rfl, List.Perm.refl _, List.Pairwise.nil, by simpa using hrow, hb⟩
  · have hH : HoldsK encR 9 w1 gb 0 ks.toArray := holdsK_of_block hgb r4
    have hgl : gb < w1.heap.size := (Array.getElem?_eq_some_iff.1 hgb).1
    have cs := hS gb cap ks w1 hH hgl hl
    clear hH hnil
    go_wp2_with fail
    refine cs.mono ?_
    rintro _ _ ⟨rfl, kk, os, ts, rfl, hp, hs⟩
    go_wp2_with fail
    go_ret
    exact ⟨_, ts, rfl, hp, hs, by rw [hp.length_eq]; exact ownsRow_sortK hp.length_eq hbase hgb r1 r2 r3, hb.grown (grownBy_sortK _) hb.size (fun j hj => by cases hj; exact hbase)⟩
end Go.Proofs.YtbihaoadgcckhaaGreat
