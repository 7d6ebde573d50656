/- The law MarketDeals: its drawn statements. -/
import Derived.Test.YteopjiedjnaeiaaGreatDgbc
import Derived.Test.YteopjiedjnaeiaaGreatDgap
import Derived.Test.YteopjiedjnaeiaaGreatDgax
import Derived.Test.YteopjiedjnaeiaaGreatDgau
import Derived.Test.YteopjiedjnaeiaaGreatDgas
import Derived.Test.YteopjiedjnaeiaaGreatDgaj
import Derived.Test.YteopjiedjnaeiaaGreatDgay
import Derived.Test.YteopjiedjnaeiaaGreatDgai
import Derived.Test.YteopjiedjnaeiaaGreatDgaa
/- slices.SortStableFunc of up to 39 requests. -/
namespace Go.Proofs.YteopjiedjnaeiaaGreat
open Go Go.Proofs Go.RowKit Go.Maps Go.Sort Go.Lib

theorem ins_mid (P A S : List Req) (a b : Nat) (ha : P.length = a) (hb : a + A.length = b) : ∃ C, Go.Sort.insertionSort ltB (List.toArray (P ++ (A ++ S))) a b = List.toArray (P ++ (C ++ S)) ∧ C.Perm A ∧ Srt ltB C := by
  obtain ⟨⟨h1, h2, h3⟩, h4⟩ := insertionSort_holds (lt := ltB) swoB (List.toArray (P ++ (A ++ S))) a b (by omega) (by simp; omega)
  generalize Go.Sort.insertionSort ltB (List.toArray (P ++ (A ++ S))) a b = d at h1 h2 h3 h4
  obtain ⟨L⟩ := d
  have hl : L.length = a + A.length + S.length := by
    have : L.length = (P ++ (A ++ S)).length := by simpa using h1
    rw [this]; simp; omega
  have hget : ∀ i, i < a ∨ b ≤ i → L[i]? = (P ++ (A ++ S))[i]? := by
    intro i hi
    have hll : (P ++ (A ++ S)).length = L.length := by rw [hl]; simp; omega
    by_cases hlt : i < L.length
    · have := h2 i hi
      rw [getElem!_pos _ _ (by simpa using hlt), getElem!_pos _ _ (by rw [List.size_toArray]; omega)] at this
      rw [List.getElem?_eq_getElem hlt, List.getElem?_eq_getElem (by omega)]
      exact congrArg some (by simpa using this)
    · rw [List.getElem?_eq_none (by omega), List.getElem?_eq_none (by omega)]
  have e : L = P ++ ((L.drop a).take A.length ++ S) := by
    apply List.ext_getElem?
    intro i
    by_cases c1 : i < a
    · rw [hget i (.inl c1), List.getElem?_append_left (by omega), List.getElem?_append_left (by omega)]
    · by_cases c2 : i < b
      · rw [List.getElem?_append_right (by omega), List.getElem?_append_left (by simp; omega), List.getElem?_take, if_pos (by omega), List.getElem?_drop, show a + (i - P.length) = i by omega]
      · rw [hget i (.inr (by omega)), List.getElem?_append_right (by omega), List.getElem?_append_right (by omega), List.getElem?_append_right (by omega), List.getElem?_append_right (by simp; omega)]
        congr 1
        simp
        omega
  refine ⟨(L.drop a).take A.length, congrArg List.toArray e, ?_, ?_⟩
  · have e2 : b - a = A.length := by omega
    have e3 : ((P ++ (A ++ S)).drop a).take A.length = A := by rw [← ha]; simp
    simpa [List.extract_eq_take_drop, e2, e3] using h3
  · refine List.pairwise_iff_getElem.2 fun i j hi hj hij => ?_
    have hj' : j < A.length := by simp at hj; omega
    have := h4 (a + i) (a + j) (by omega) (by omega) (by omega)
    rw [getElem!_pos _ _ (by rw [List.size_toArray]; omega), getElem!_pos _ _ (by rw [List.size_toArray]; omega)] at this
    simpa using this
set_option maxHeartbeats 1000000 in
/-- .. of two insertion sorts and a merge. -/
theorem stable_two (p : Option Addr) (n cap : Nat) (W : World) (Q1 Q2 Q3 : World → Prop) (hn1 : 20 ≤ n) (hn2 : n ≤ 39)
    (c1 : Calls Tryz.prog 65 #[.slice p n cap, .int .i64 0, .int .i64 20, .func (.func 22) #[] #[]] W fun e w' => e = .returned (.tuple #[]) ∧ Q1 w')
    (c2 : ∀ w1, Q1 w1 → Calls Tryz.prog 65 #[.slice p n cap, .int .i64 20, .int .i64 n, .func (.func 22) #[] #[]] w1 fun e w' => e = .returned (.tuple #[]) ∧ Q2 w')
    (c3 : ∀ w2, Q2 w2 → 20 < n → Calls Tryz.prog 66 #[.slice p n cap, .int .i64 0, .int .i64 20, .int .i64 n, .func (.func 22) #[] #[]] w2 fun e w' => e = .returned (.tuple #[]) ∧ Q3 w')
    (c4 : ∀ w2, Q2 w2 → n = 20 → Q3 w2) :
    Calls Tryz.prog 36 #[.slice p n cap, .func (.func 22) #[] #[]] W fun e w' => e = .returned (.tuple #[]) ∧ Q3 w' := by
  have hs : Calls Tryz.prog 51 #[.slice p n cap, .int .i64 n, .func (.func 22) #[] #[]] W fun e w' => e = .returned (.tuple #[]) ∧ Q3 w' := by
    have h20 : decide ((20 : Int) ≤ (n : Int)) = true := by rw [decide_eq_true_iff]; omega
    have h40 : decide ((40 : Int) ≤ (n : Int)) = false := by rw [decide_eq_false_iff_not]; omega
    have h40' : decide ((40 : Int) < (n : Int)) = false := by rw [decide_eq_false_iff_not]; omega
    have w40 : IntKind.i64.wrap ((20 : Int) + 20) = 40 := by decide
    have w0 : IntKind.i64.wrap ((0 : Int) + 20) = 20 := by decide
    by_cases h : n = 20
    · have h20' : decide ((20 : Int) < (n : Int)) = false := by rw [decide_eq_false_iff_not]; omega
      have HN := Lib.hid h
      clear h c3
      go_enter Tryz.func51, Tryz.ntmps51
      go_wp2_with fail
      refine wp_loop_rounds 2 ?_
      rw [rounds_succ]
      go_wp2_with fail
      refine c1.mono ?_
      rintro _ w1 ⟨rfl, hQ1⟩
      go_wp2_with fail
      rw [rounds_succ]
      go_wp2_with fail
      refine (c2 w1 hQ1).mono ?_
      rintro _ w2 ⟨rfl, hQ2⟩
      have hQ3 := c4 w2 hQ2 HN.out
      clear c1 c2 c4 hQ1 hQ2
      go_wp2_with fail
      refine wp_loop_rounds 1 ?_
      rw [rounds_succ]
      go_wp2_with fail
      exact ⟨rfl, _, results_none rfl _ _ _, rfl, hQ3⟩
    · have h20' : decide ((20 : Int) < (n : Int)) = true := by rw [decide_eq_true_iff]; omega
      have HN : Hid (20 < n) := Lib.hid (by omega)
      clear h c4
      go_enter Tryz.func51, Tryz.ntmps51
      go_wp2_with fail
      refine wp_loop_rounds 2 ?_
      rw [rounds_succ]
      go_wp2_with fail
      refine c1.mono ?_
      rintro _ w1 ⟨rfl, hQ1⟩
      go_wp2_with fail
      rw [rounds_succ]
      go_wp2_with fail
      refine (c2 w1 hQ1).mono ?_
      rintro _ w2 ⟨rfl, hQ2⟩
      have cs := c3 w2 hQ2 HN.out
      clear c1 c2 c3 hQ1 hQ2
      go_wp2_with fail
      refine wp_loop_rounds 2 ?_
      rw [rounds_succ]
      go_wp2_with fail
      refine wp_loop_rounds 1 ?_
      rw [rounds_succ]
      go_wp2_with fail
      refine cs.mono ?_
      rintro _ w3 ⟨rfl, hQ3⟩
      clear cs
      go_wp2_with fail
      rw [rounds_succ]
      go_wp2_with fail
      exact ⟨rfl, _, results_none rfl _ _ _, rfl, hQ3⟩
  go_enter Tryz.func36, Tryz.ntmps36
  go_wp2_with fail
  refine hs.mono ?_
  rintro _ w1 ⟨rfl, hQ⟩
  go_wp2_with fail
  exact ⟨rfl, _, results_none rfl _ _ _, rfl, hQ⟩
theorem sortsB_39 : SortsB 39 := fun blk cap ks W hH hblk hl => by
  by_cases h20 : ks.length < 20
  · exact sortsB_19 blk cap ks W hH hblk (by omega)
  obtain ⟨A, B, hAB, hA⟩ := get_split ks 20 (by omega)
  have hks : ks.length = 20 + B.length := by rw [hAB]; simp; omega
  obtain ⟨A', i1, pA, sA⟩ := ins_mid [] A B 0 20 rfl (by omega)
  obtain ⟨B', i2, pB, sB⟩ := ins_mid A' B [] 20 ks.length (by rw [pA.length_eq]; exact hA) (by omega)
  simp only [List.nil_append, List.append_nil] at i1 i2
  rw [← hAB] at i1
  have hlA : A'.length = 20 := by rw [pA.length_eq]; exact hA
  have hlB : B'.length = B.length := pB.length_eq
  refine stable_two (some ⟨blk, 0, none⟩) ks.length cap W (fun w1 => Row W blk (A' ++ B) w1) (fun w2 => Row W blk (A' ++ B') w2) (fun w' => ∃ k os ts, w' = sortWorldK encR 9 W blk 0 k (List.toArray ts) os ∧ ts.Perm ks ∧ ts.Pairwise fun a b => ltOf cmpB b a = false) (by omega) hl ?_ ?_ ?_ ?_
  · have ci := insB_any blk 0 cap 0 20 ks.toArray W hH hblk (by omega) (by simp; omega) (by simp; omega)
    rw [i1] at ci
    simp only [List.size_toArray] at ci
    exact ci.mono fun e w' ⟨he, n, os, hw⟩ => ⟨he, n, os, hw⟩
  · intro w1 h1
    have hl1 : (A' ++ B).length = ks.length := by simp; omega
    have hH1 := Row.at hH hblk h1 (by simpa using hl1)
    have ci := insB_any blk 0 cap 20 ks.length (List.toArray (A' ++ B)) w1 hH1 (h1.lt hblk) (by omega) (by rw [List.size_toArray]; omega) (by rw [List.size_toArray]; omega)
    rw [i2] at ci
    simp only [List.size_toArray, hl1] at ci
    refine ci.mono fun e w' ⟨he, n, os, hw⟩ => ⟨he, ?_⟩
    rw [hw]
    exact SWK.on h1 hblk n (List.toArray (A' ++ B')) os (by simp; omega)
  · intro w2 h2 hlt
    have cs := sym_any W blk cap ks.length ks.toArray hH hblk (by omega) (by simp) (ks.length) [] A' B' [] 0 20 ks.length w2 (by omega) (by omega) (by omega) rfl (by omega) (by omega) sA sB (by simpa using h2) (by simp; omega)
    refine cs.mono ?_
    rintro e w' ⟨rfl, C, ⟨k, os, hw⟩, hp, hs⟩
    simp only [List.nil_append, List.append_nil] at hw
    exact ⟨rfl, k, os, C, hw, hp.trans (by rw [hAB]; exact pA.append pB), hs⟩
  · intro w2 h2 he
    obtain ⟨k, os, hw⟩ := h2
    have hB0 : B' = [] := List.eq_nil_of_length_eq_zero (by omega)
    have hB1 : B = [] := List.eq_nil_of_length_eq_zero (by omega)
    subst hB0 hB1
    simp only [List.append_nil] at hw hAB
    exact ⟨k, os, A', hw, by rw [hAB]; exact pA, sA⟩
end Go.Proofs.YteopjiedjnaeiaaGreat
/- MarketDeals in plain words: both programs deal the same requests in the same order. -/
namespace Go.Proofs.YteopjiedjnaeiaaGreat
open Go Go.Proofs Go.RowKit Go.Maps Go.Sort Go.Lib

open Classical in
/-- The order of the requests that are active. -/
noncomputable def ordX (X : List Req) : List Req := if h : ∃ O, ActOrd X O then h.choose else []
theorem ordX_eq {X O : List Req} (h : ActOrd X O) : O = ordX X := by
  have he : ∃ O, ActOrd X O := ⟨O, h⟩
  unfold ordX
  rw [dif_pos he]
  exact h.same he.choose_spec fun _ => Iff.rfl
/-- A catalog and what is met, as both programs take them. -/
structure CatX (w : World) (ov mv : Value) (L : List Off) (M : List Seat) : Prop where
  cat : CatIn w ov mv L M
  few : FewO w L
theorem CatX.below {w w' : World} {ov mv : Value} {L : List Off} {M : List Seat} (h : CatX w ov mv L M) (hb : RowKit.Below w.heap.size w w') : CatX w' ov mv L M := ⟨h.cat.below hb, h.few.below hb⟩
/-- Requests, as both programs take them. -/
structure ReqX (w : World) (v : Value) (X : List Req) : Prop where
  row : ReqsIn w v X
  len : X.length ≤ 22
  fits : ∀ r ∈ X, r.fits
theorem ReqX.below {w w' : World} {v : Value} {X : List Req} (h : ReqX w v X) (hb : RowKit.Below w.heap.size w w') : ReqX w' v X := ⟨h.row.below hb, h.len, h.fits⟩
/-- The deal that both find. -/
noncomputable def dealX (L : List Off) (M : List Seat) (n : Int) (X : List Req) : Deal := dealP L M n (ordX X)
theorem ord_len {X O : List Req} (h : ActOrd X O) : O.length ≤ X.length := h.len
theorem deal_x {W0 w : World} {ov mv lv : Value} {L : List Off} {M : List Seat} {X : List Req} (n : Int) (hc : CatX W0 ov mv L M) (hx : ReqX W0 lv X) (hB : RowKit.Below W0.heap.size W0 w) :
    Calls Tryz.prog 10 #[ov, mv, .int .i64 n, lv] w fun e w' => ∃ v, e = .returned v ∧ DealIn w' v (dealX L M n X) ∧ RowKit.Below w.heap.size w w' := by
  have hl := hx.len
  refine (deal_cat 39 sortsB_39 (by omega) ov mv lv L M n X w (hc.cat.below hB) (hx.row.below hB) (by omega) hx.fits (fun O hO => by have := actR_len_le hO; omega)).mono ?_
  rintro _ w' ⟨sv, wv, O, rfl, hO, hs, hw, hb⟩
  obtain rfl := ordX_eq hO
  have h1 := deal_len (L := L) (met := M) (most := n) (ordX X)
  have h2 := ord_len hO
  exact ⟨_, rfl, (show DealIn w' _ (dealP L M n (ordX X)) from DealIn.mk' hs hw (by omega) (by omega)), hb⟩
theorem refd_x {W0 w : World} {ov mv lv : Value} {L : List Off} {M : List Seat} {X : List Req} (n : Int) (hc : CatX W0 ov mv L M) (hx : ReqX W0 lv X) (hB : RowKit.Below W0.heap.size W0 w) :
    Calls Tryz.prog 11 #[ov, mv, .int .i64 n, lv] w fun e w' => ∃ v, e = .returned v ∧ DealIn w' v (dealX L M n X) ∧ RowKit.Below w.heap.size w w' := by
  have hl := hx.len
  have hC := hc.cat.below hB
  refine (refDeal_any ov mv lv L M n X w hC.off hC.lo (hc.few.below hB) hC.met hC.lm (hx.row.below hB) (by omega) hx.fits).mono ?_
  rintro _ w' ⟨v, A, rfl, hA, hd, hb⟩
  refine ⟨v, rfl, ?_, hb⟩
  unfold dealX
  rw [← ordX_eq ⟨A, hA, ordP_isOrd (actR_nums A)⟩]
  exact hd
theorem same_x {x y : Value} {d : Deal} {w : World} (hx : DealIn w x d) (hy : DealIn w y d) :
    Calls Tryz.prog 9 #[x, y] w fun e w' => e = .returned (.bool true) ∧ RowKit.Below w.heap.size w w' := by
  have := refSame_any x y d d w hx hy
  rwa [sameD_refl] at this
theorem GoodL.fewX {k : Nat} {w : World} {L : List Off} (h : GoodL k L) (hok : ∀ o ∈ L, OffOk w o) : FewO w L := fun o ho => ⟨hok o ho, by have := (h.1 o ho).sl; omega, by have := (h.1 o ho).nd; omega⟩
theorem MkCase.catX {w : World} {ov mv rv : Value} {L : List Off} {M : List Seat} {most : Int} {R : List Req} (h : MkCase w ov mv rv L M most R) : CatX w ov mv L M := ⟨h.cat, h.good.fewX fun o ho => (h.cat.ok o ho).1⟩
theorem MkCase.reqX {w : World} {ov mv rv : Value} {L : List Off} {M : List Seat} {most : Int} {R : List Req} (h : MkCase w ov mv rv L M most R) : ReqX w rv R := ⟨h.req, by have := h.lr; omega, fun r hr => (h.small r hr).fits⟩
theorem RawC.below {w w' w'' : World} {B : Nat} {v ov sv lv : Value} {L : List Off} {M : List Seat} {n : Int} {R : List Req} (h : RawC w B w' v ov sv lv L M n R) (hb : RowKit.Below w'.heap.size w' w'') : RawC w B w'' v ov sv lv L M n R :=
  ⟨h.eq, h.offs.kept (row := none) (below_grows hb) (by cases ov.ownBlock <;> simp), h.offG, h.offN, h.seats, h.seatG, h.seatN, h.reqs, h.reqG, h.reqN⟩
theorem RawC.catX {w w' : World} {B : Nat} {v ov sv lv : Value} {L : List Off} {M : List Seat} {n : Int} {R : List Req} (h : RawC w B w' v ov sv lv L M n R) (hb : RowKit.Below w.heap.size w w') : CatX w' ov sv L M :=
  ⟨⟨rowIn_own offT.len offT.pos h.offs, fun o ho => ⟨(h.offG o ho).1.below hb, by have := (h.offG o ho).2.1; unfold Off.few; omega⟩, fun o ho => (h.offG o ho).2.2.2, h.seats.below hb, h.seatG, by have := h.offN; omega, by have := h.seatN; omega⟩,
   fun o ho => ⟨(h.offG o ho).1.below hb, by have := (h.offG o ho).2.1; omega, by rw [(h.offG o ho).2.2.1]; exact Nat.zero_le _⟩⟩
theorem RawC.set {w w' : World} {B b j : Nat} {u : Value} {v ov sv lv : Value} {L : List Off} {M : List Seat} {n : Int} {R : List Req} (h : RawC w B w' v ov sv lv L M n R) (hb : b < B) : RawC w B (w'.setCell ⟨b, j, none⟩ u) v ov sv lv L M n R :=
  ⟨h.eq, own_set h.offs hb _ _, h.offG, h.offN, h.seats, h.seatG, h.seatN, h.reqs, h.reqG, h.reqN⟩
theorem wf_fits {r : Req} (h : r.wf) : r.fits := ⟨h, by have := h.2.2.2.2.1; unfold maxLen at this; omega, by have := h.2.2.2.2.2.1; unfold maxLen at this; omega⟩
end Go.Proofs.YteopjiedjnaeiaaGreat
namespace Go.Proofs.YteopjiedjnaeiaaGreat
open Go Go.Proofs Go.RowKit Go.Maps Go.Sort Go.Lib
attribute [local go_sem] Req.cells

theorem reqTd : RowT Tryz.prog encR 9 39 30 where
  len _ := rfl
  one r u hu := by
    simp [encR, Req.cells] at hu
    rcases hu with rfl | rfl | rfl | rfl | rfl | rfl | rfl | rfl | rfl <;> rfl
  pos := by decide
  und := Tryz.underlying30
  info := by
    obtain ⟨i0, hi, h1, h2, h3⟩ := info_parts req_info
    exact ⟨i0, _, hi, h1, h2, rfl, by omega⟩
/-- An append to a row of one's own, of anything. -/
theorem flow_append_row {α : Type} {enc : α → List Value} {k : Nat} {P : Program} {e t : TypeId} (R : RowT P enc k e t) {ops : Array Oper} {Q : Exit → Act → World → Prop} {S : World → Prop} {i : Nat} {σ : List (Nat × Bool)} {a : Act} {w : World} (oi : Oper) (hi : ops[i]? = some oi) (hw : Region.wanted oi (yielded ops a.tmps) = true)
    (s x : Operand) (ho : oi.op = .call { callee := .builtin .append, args := #[s, x], argTypes := #[t, t] })
    (base : Nat) (v xv : Value) (X Y : List α) (hs : a.eval s = v) (hxv : a.eval x = xv) (hown : w.ownsRow base e k v X.length (flatE enc X)) (hx : RowIn enc w xv Y) (hl : X.length + Y.length ≤ 1000000) (hb : base ≤ w.heap.size)
    (h : ∀ v' w', AppT enc k e w base v X Y v' w' → S w' ∧ wpFlow P ops Q S σ (a.put oi.dst v') w') : wpFlow P ops Q S ((i, false) :: σ) a w :=
  flow_op oi hi hw (by
    obtain ⟨v', w', hr, hA⟩ := run_append_row R w base oi.type v xv X Y hown hx hl hb
    unfold Oper.wp execOp
    simp only [ho, resolve, invoke, builtin, Sem.run_bind, Sem.run_pure, Result.andThen_ok, List.map_toArray, List.map_cons, List.map_nil, hs, hxv, hr]
    exact h v' w' hA)
theorem reqs_rowIn {w : World} {v : Value} {L : List Req} (h : ReqsIn w v L) : RowIn encR w v L := by
  rcases h with ⟨rfl, rfl⟩ | ⟨b, o, c, rfl, h2, h3, h4⟩
  · exact .nil _ _
  · exact ⟨_, _, rfl, h2, (fun e => by cases e), fun _ => ⟨b, o, rfl, h3, h4⟩⟩

set_option maxHeartbeats 4000000 in
set_option maxRecDepth 100000 in
theorem de_r7 {s0 s1 s2 s3 s5 s6 s7 s8 s9 s10 s11 s14 s15 s16 s17 s18 s19 s20 s21 s22 s23 s24 s25 s26 s27 s28 s29 s30 s31 s32 s33 s34 s35 s36 s37 s38 s39 s40 s41 s42 s43 s44 s45 s46 s47 s48 s49 s50 s51 s52 s53 s54 s55 s56 s57 s58 s59 s60 s61 s62 s63 s64 s65 s66 s67 s68 s69 s70 s71 s72 s73 s74 s75 s76 s77 s78 s79 s80 s81 s82 s83 s84 s85 s86 s87 s88 s89 s90 s91 s92 s93 s94 s95 s96 s97 s98 s99 s100 s101 s102 s103 s104 s105 s106 s107 s108 : Value} (W0 : World) (B g gq n c k : Nat) (A : List Req) (x : Req) (q0 q1 q2 : Int) (W : World) (Q : Exit → Act → World → Prop) (hO : OrdSt W0 B g A W) (hB : B ≤ W.heap.size) (hx : A[k]? = some x) (hk : k < A.length) (hkn : (k : Int) < (n : Int)) (hsm : x.Small) (hq : ∀ j, W.cell? ⟨gq, j, none⟩ = (#[.int .i64 q0, .int .i64 q1, .int .i64 q2] : Array Value)[j]?) (hgq : gq < W.heap.size) (hne : gq ≠ g) (i1 : I64 q1) (i2 : I64 q2)
    (hQ : ∀ (u39 u40 u41 u42 u43 u44 u45 u46 u47 u48 u49 u50 u51 : Value) (wx : World), ∀ r : Req, r.Small → OrdSt W0 B g (A.set k r) wx → Q .normal ⟨List.toArray (s0 :: s1 :: s2 :: s3 :: .pointer (some ⟨gq, 0, none⟩) :: s5 :: s6 :: s7 :: s8 :: s9 :: s10 :: s11 :: .slice (some ⟨g, 0, none⟩) n c :: .int .i64 (k : Int) :: s14 :: s15 :: s16 :: s17 :: s18 :: s19 :: s20 :: s21 :: s22 :: s23 :: s24 :: s25 :: s26 :: s27 :: s28 :: s29 :: s30 :: s31 :: s32 :: s33 :: s34 :: s35 :: s36 :: s37 :: s38 :: u39 :: u40 :: u41 :: u42 :: u43 :: u44 :: u45 :: u46 :: u47 :: u48 :: u49 :: u50 :: u51 :: s52 :: s53 :: s54 :: s55 :: s56 :: s57 :: s58 :: s59 :: s60 :: s61 :: s62 :: s63 :: s64 :: s65 :: s66 :: s67 :: s68 :: s69 :: s70 :: s71 :: s72 :: s73 :: s74 :: s75 :: s76 :: s77 :: s78 :: s79 :: s80 :: s81 :: s82 :: s83 :: s84 :: s85 :: s86 :: s87 :: s88 :: s89 :: s90 :: s91 :: s92 :: s93 :: s94 :: s95 :: s96 :: s97 :: s98 :: s99 :: s100 :: s101 :: s102 :: s103 :: s104 :: s105 :: s106 :: s107 :: s108 :: []), []⟩ wx) :
    (regionOf Tryz.f3 7).wp Tryz.prog Q ⟨List.toArray (s0 :: s1 :: s2 :: s3 :: .pointer (some ⟨gq, 0, none⟩) :: s5 :: s6 :: s7 :: s8 :: s9 :: s10 :: s11 :: .slice (some ⟨g, 0, none⟩) n c :: .int .i64 (k : Int) :: s14 :: s15 :: s16 :: s17 :: s18 :: s19 :: s20 :: s21 :: s22 :: s23 :: s24 :: s25 :: s26 :: s27 :: s28 :: s29 :: s30 :: s31 :: s32 :: s33 :: s34 :: s35 :: s36 :: s37 :: s38 :: s39 :: s40 :: s41 :: s42 :: s43 :: s44 :: s45 :: s46 :: s47 :: s48 :: s49 :: s50 :: s51 :: s52 :: s53 :: s54 :: s55 :: s56 :: s57 :: s58 :: s59 :: s60 :: s61 :: s62 :: s63 :: s64 :: s65 :: s66 :: s67 :: s68 :: s69 :: s70 :: s71 :: s72 :: s73 :: s74 :: s75 :: s76 :: s77 :: s78 :: s79 :: s80 :: s81 :: s82 :: s83 :: s84 :: s85 :: s86 :: s87 :: s88 :: s89 :: s90 :: s91 :: s92 :: s93 :: s94 :: s95 :: s96 :: s97 :: s98 :: s99 :: s100 :: s101 :: s102 :: s103 :: s104 :: s105 :: s106 :: s107 :: s108 :: []), []⟩ W := by
  refine of_onlyN (K := Q .normal) ?_ (fun _ _ h => h)
  generalize Q .normal = K at hQ ⊢
  have HQ := Lib.hid hQ; clear hQ
  conv => arg 2; whnf
  have hO0 : OrdSt W0 B g A W.drew := hO.next (Below.refl _ _).drew hB
  have hS0 : ∀ j, W.drew.cell? ⟨gq, j, none⟩ = (#[.int .i64 q0, .int .i64 q1, .int .i64 q2] : Array Value)[j]? := hq
  refine of_onlyN ?_ (fun _ _ h => h)
  refine wp_region_flow (S := fun w' => ∀ j, w'.cell? ⟨gq, j, none⟩ = (#[.int .i64 q0, .int .i64 q1, .int .i64 q2] : Array Value)[j]?) [(0, true), (1, true), (2, true), (3, true), (4, true), (6, true), (7, true), (8, true), (9, true), (10, true), (5, false), (11, false), (12, true), (13, false)] (by kernel_rfl) (by kernel_rfl) (by kernel_rfl) (by decide) (hS0) ?_
  have hS := hS0
  refine flow_take ⟨some 39, _, _, _, _, _⟩ ?_ rfl (by rfl) ?_ ?_
  rotate_left 1
  · intro w hSw; (try dsimp only at hSw); go_simp; (try with_reducible rfl)
  simp only [Act.put, List.setIfInBounds_toArray, List.set_cons_zero, List.set_cons_succ]
  refine flow_take ⟨some 40, _, _, _, _, _⟩ ?_ rfl (by rfl) ?_ ?_
  rotate_left 1
  · intro w hSw; (try dsimp only at hSw); go_simp; (try with_reducible rfl)
  simp only [Act.put, List.setIfInBounds_toArray, List.set_cons_zero, List.set_cons_succ]
  refine flow_take ⟨some 41, _, _, _, _, _⟩ ?_ rfl (by rfl) ?_ ?_
  rotate_left 1
  · intro w hSw; (try dsimp only at hSw); go_simp; (try with_reducible rfl)
  simp only [Act.put, List.setIfInBounds_toArray, List.set_cons_zero, List.set_cons_succ]
  refine flow_take ⟨some 42, _, _, _, _, _⟩ ?_ rfl (by rfl) ?_ ?_
  rotate_left 1
  · intro w hSw; (try dsimp only at hSw); go_simp; (try with_reducible rfl)
  simp only [Act.put, List.setIfInBounds_toArray, List.set_cons_zero, List.set_cons_succ]
  refine flow_take ⟨some 43, _, _, _, _, _⟩ ?_ rfl (by rfl) ?_ ?_
  rotate_left 1
  · intro w hSw; (try dsimp only at hSw); go_simp; (try with_reducible rfl)
  simp only [Act.put, List.setIfInBounds_toArray, List.set_cons_zero, List.set_cons_succ]
  refine flow_take ⟨some 45, _, _, _, _, _⟩ ?_ rfl (by rfl) ?_ ?_
  rotate_left 1
  · intro w hSw; (try dsimp only at hSw); go_simp; (try with_reducible rfl)
  simp only [Act.put, List.setIfInBounds_toArray, List.set_cons_zero, List.set_cons_succ]
  refine flow_take ⟨some 46, _, _, _, _, _⟩ ?_ rfl (by rfl) ?_ ?_
  rotate_left 1
  · intro w hSw; (try dsimp only at hSw); go_simp; (try with_reducible rfl)
  simp only [Act.put, List.setIfInBounds_toArray, List.set_cons_zero, List.set_cons_succ]
  refine flow_take ⟨some 47, _, _, _, _, _⟩ ?_ rfl (by rfl) ?_ ?_
  rotate_left 1
  · intro w hSw; (try dsimp only at hSw); go_simp; (try with_reducible rfl)
  simp only [Act.put, List.setIfInBounds_toArray, List.set_cons_zero, List.set_cons_succ]
  refine flow_take ⟨some 48, _, _, _, _, _⟩ ?_ rfl (by rfl) ?_ ?_
  rotate_left 1
  · intro w hSw; (try dsimp only at hSw); go_simp; (try with_reducible rfl)
  simp only [Act.put, List.setIfInBounds_toArray, List.set_cons_zero, List.set_cons_succ]
  refine flow_take ⟨some 49, _, _, _, _, _⟩ ?_ rfl (by rfl) ?_ ?_
  rotate_left 1
  · intro w hSw; (try dsimp only at hSw); go_simp; (try with_reducible rfl)
  simp only [Act.put, List.setIfInBounds_toArray, List.set_cons_zero, List.set_cons_succ]
  refine flow_run ⟨some 44, _, _, _, _, _⟩ x.val W.drew rfl (by rfl) (run_load_req _ (.tmp 43) (by rfl) W.drew g _ _ (hO0.row k x hx) (by rfl)) hS ?_
  (try simp only [Act.put, List.setIfInBounds_toArray, List.set_cons_zero, List.set_cons_succ])
  refine flow_call ⟨some 50, _, _, _, _, _⟩ rfl (by rfl) 8 _ _ (by rfl) _ (by rfl) Tryz.call8 (odd_any x q1 q2 hsm i1 i2 _) ?_; rintro e wn ⟨r, rfl, hr, hb⟩; replace hS : ∀ j, wn.cell? ⟨gq, j, none⟩ = (#[.int .i64 q0, .int .i64 q1, .int .i64 q2] : Array Value)[j]? := fun j => (hb.cell (p := ⟨gq, j, none⟩) hgq).trans (hS j); have hO1 := hO0.next hb hB; have hB1 : B ≤ wn.heap.size := Nat.le_trans hB hb.size; refine ⟨_, rfl, hS, ?_⟩; (try clear hb)
  (try simp only [Act.put, List.setIfInBounds_toArray, List.set_cons_zero, List.set_cons_succ])
  refine flow_take ⟨some 51, _, _, _, _, _⟩ ?_ rfl (by rfl) ?_ ?_
  rotate_left 1
  · intro w hSw; (try dsimp only at hSw); go_simp; (try with_reducible rfl)
  simp only [Act.put, List.setIfInBounds_toArray, List.set_cons_zero, List.set_cons_succ]
  refine flow_op ⟨none, _, _, _, _, _⟩ rfl (by rfl) (wp_store_mid 39 (.tmp 51) (.tmp 50) (by rfl) g (k * 9) r.cells (by rfl) (by rfl) (there_at hO1 hk) (by kernel_rfl) (req_all _) ?_); refine ⟨fun j => (World.cell?_setCells_out g _ _ _ ⟨gq, j, none⟩ (fun e _ => absurd e hne)).trans (hS j), ?_⟩
  (try simp only [Act.put])
  simp only [wpFlow, OnlyN]
  exact HQ.out _ _ _ _ _ _ _ _ _ _ _ _ _ _ r hr (hO1.set hB1 hk r)

set_option maxHeartbeats 4000000 in
set_option maxRecDepth 100000 in
theorem de_r8 {s0 s1 s2 s3 s4 s6 s7 s8 s9 s10 s13 s14 s15 s16 s17 s18 s19 s20 s21 s22 s23 s24 s25 s26 s27 s28 s29 s30 s31 s32 s33 s34 s35 s36 s37 s38 s39 s40 s41 s42 s43 s44 s45 s46 s47 s48 s49 s50 s51 s52 s53 s54 s55 s56 s57 s58 s59 s60 s61 s62 s63 s64 s65 s66 s67 s68 s69 s70 s71 s72 s73 s74 s75 s76 s77 s78 s79 s80 s81 s82 s83 s84 s85 s86 s87 s88 s89 s90 s91 s92 s93 s94 s95 s96 s97 s98 s99 s100 s101 s102 s103 s104 s105 s106 s107 s108 : Value} (gr nA cA nB cB : Nat) (pA pB : Option Addr) (A R : List Req) (N : Int) (ovr svr lvr : Value) (W : World) (Q : Exit → Act → World → Prop) (hR : ∀ j, W.cell? ⟨gr, j, none⟩ = (#[ovr, svr, .int .i64 N, lvr] : Array Value)[j]?) (hgr : gr < W.heap.size) (hA : RowIn encR W (.slice pA nA cA) A) (hraw : RowIn encR W lvr R) (lA : A.length ≤ 100000) (lR : R.length ≤ 100000)
    (hQ : ∀ (u52 u53 u54 u55 u56 u57 u58 u59 : Value) (wx : World) (gl : Nat) (v3 : Value), RowKit.Below W.heap.size W wx → gl < wx.heap.size → (∀ j, wx.cell? ⟨gl, j, none⟩ = (#[.slice pA nA cA, .slice pB nB cB, v3] : Array Value)[j]?) → ReqsIn wx v3 ([] ++ A ++ R) → Q .normal ⟨List.toArray (s0 :: s1 :: s2 :: s3 :: s4 :: .pointer (some ⟨gr, 0, none⟩) :: s6 :: s7 :: s8 :: s9 :: s10 :: .slice pA nA cA :: .slice pB nB cB :: s13 :: s14 :: s15 :: s16 :: s17 :: s18 :: s19 :: s20 :: s21 :: s22 :: s23 :: s24 :: s25 :: s26 :: s27 :: s28 :: s29 :: s30 :: s31 :: s32 :: s33 :: s34 :: s35 :: s36 :: s37 :: s38 :: s39 :: s40 :: s41 :: s42 :: s43 :: s44 :: s45 :: s46 :: s47 :: s48 :: s49 :: s50 :: s51 :: u52 :: u53 :: u54 :: u55 :: u56 :: u57 :: u58 :: u59 :: .slice (some ⟨gl, 0, none⟩) 3 3 :: .int .i64 3 :: .int .i64 0 :: s63 :: s64 :: s65 :: s66 :: s67 :: s68 :: s69 :: s70 :: s71 :: s72 :: s73 :: s74 :: s75 :: s76 :: s77 :: s78 :: s79 :: s80 :: s81 :: s82 :: s83 :: s84 :: s85 :: s86 :: s87 :: s88 :: s89 :: s90 :: s91 :: s92 :: s93 :: s94 :: s95 :: s96 :: s97 :: s98 :: s99 :: s100 :: s101 :: s102 :: s103 :: s104 :: s105 :: s106 :: s107 :: s108 :: []), []⟩ wx) :
    (regionOf Tryz.f3 8).wp Tryz.prog Q ⟨List.toArray (s0 :: s1 :: s2 :: s3 :: s4 :: .pointer (some ⟨gr, 0, none⟩) :: s6 :: s7 :: s8 :: s9 :: s10 :: .slice pA nA cA :: .slice pB nB cB :: s13 :: s14 :: s15 :: s16 :: s17 :: s18 :: s19 :: s20 :: s21 :: s22 :: s23 :: s24 :: s25 :: s26 :: s27 :: s28 :: s29 :: s30 :: s31 :: s32 :: s33 :: s34 :: s35 :: s36 :: s37 :: s38 :: s39 :: s40 :: s41 :: s42 :: s43 :: s44 :: s45 :: s46 :: s47 :: s48 :: s49 :: s50 :: s51 :: s52 :: s53 :: s54 :: s55 :: s56 :: s57 :: s58 :: s59 :: s60 :: s61 :: s62 :: s63 :: s64 :: s65 :: s66 :: s67 :: s68 :: s69 :: s70 :: s71 :: s72 :: s73 :: s74 :: s75 :: s76 :: s77 :: s78 :: s79 :: s80 :: s81 :: s82 :: s83 :: s84 :: s85 :: s86 :: s87 :: s88 :: s89 :: s90 :: s91 :: s92 :: s93 :: s94 :: s95 :: s96 :: s97 :: s98 :: s99 :: s100 :: s101 :: s102 :: s103 :: s104 :: s105 :: s106 :: s107 :: s108 :: []), []⟩ W := by
  refine of_onlyN (K := Q .normal) ?_ (fun _ _ h => h)
  generalize Q .normal = K at hQ ⊢
  have HQ := Lib.hid hQ; clear hQ
  conv => arg 2; whnf
  have hS0 : RowKit.Below W.heap.size W W.drew := (Below.refl _ _).drew
  have hown0 := own_empty_at W.drew W.heap.size W.heap.size rfl (Nat.le_refl _)
  have keepS : ∀ w', RowKit.Below W.heap.size W w' → RowKit.Below W.heap.size W w' ∧ ∀ j, w'.cell? ⟨gr, j, none⟩ = (#[ovr, svr, .int .i64 N, lvr] : Array Value)[j]? := fun w' hb => ⟨hb, fun j => (hb.cell (p := ⟨gr, j, none⟩) hgr).trans (hR j)⟩
  refine of_onlyN ?_ (fun _ _ h => h)
  refine wp_region_flow (S := fun w' => RowKit.Below W.heap.size W w' ∧ ∀ j, w'.cell? ⟨gr, j, none⟩ = (#[ovr, svr, .int .i64 N, lvr] : Array Value)[j]?) [(0, true), (1, true), (3, true), (5, true), (6, true), (10, true), (2, false), (4, false), (7, false), (8, false), (9, true)] (by kernel_rfl) (by kernel_rfl) (by kernel_rfl) (by decide) (keepS _ (Below.refl _ _).drew) ?_
  have hS := keepS _ (Below.refl _ _).drew
  refine flow_take ⟨some 52, _, _, _, _, _⟩ ?_ rfl (by rfl) ?_ ?_
  rotate_left 1
  · intro w hSw; (try dsimp only at hSw); go_simp; (try with_reducible rfl)
  simp only [Act.put, List.setIfInBounds_toArray, List.set_cons_zero, List.set_cons_succ]
  refine flow_take ⟨some 53, _, _, _, _, _⟩ ?_ rfl (by rfl) ?_ ?_
  rotate_left 1
  · intro w hSw; (try dsimp only at hSw); go_simp; (try with_reducible rfl)
  simp only [Act.put, List.setIfInBounds_toArray, List.set_cons_zero, List.set_cons_succ]
  refine flow_take ⟨some 55, _, _, _, _, _⟩ ?_ rfl (by rfl) ?_ ?_
  rotate_left 1
  · intro w hSw; (try dsimp only at hSw); go_simp; (try with_reducible rfl)
  simp only [Act.put, List.setIfInBounds_toArray, List.set_cons_zero, List.set_cons_succ]
  refine flow_take ⟨some 57, _, _, _, _, _⟩ ?_ rfl (by rfl) ?_ ?_
  rotate_left 1
  · intro w hSw; (try dsimp only at hSw); go_simp; (try with_reducible rfl)
  simp only [Act.put, List.setIfInBounds_toArray, List.set_cons_zero, List.set_cons_succ]
  refine flow_take ⟨some 58, _, _, _, _, _⟩ ?_ rfl (by rfl) ?_ ?_
  rotate_left 1
  · intro w hSw; (try dsimp only at hSw); go_simp; (try with_reducible rfl)
  simp only [Act.put, List.setIfInBounds_toArray, List.set_cons_zero, List.set_cons_succ]
  refine flow_take ⟨some 62, _, _, _, _, _⟩ ?_ rfl (by rfl) ?_ ?_
  rotate_left 1
  · intro w hSw; (try dsimp only at hSw); go_simp; (try with_reducible rfl)
  simp only [Act.put, List.setIfInBounds_toArray, List.set_cons_zero, List.set_cons_succ]
  refine flow_run ⟨some 54, _, _, _, _, _⟩ (.slice (some ⟨W.heap.size, 0, none⟩) 0 0) (W.drew.alloc (.cells #[] 39)) rfl (by rfl) (by go_simp) (keepS _ (below_alloc1 _ _).drew) ?_; replace hS := keepS (W.drew.alloc (.cells #[] 39)) (below_alloc1 W _).drew
  (try simp only [Act.put, List.setIfInBounds_toArray, List.set_cons_zero, List.set_cons_succ])
  refine flow_append_row reqTd ⟨some 56, _, _, _, _, _⟩ rfl (by rfl) (.tmp 54) (.tmp 55) (by rfl) W.heap.size _ _ [] A (by rfl) (by rfl) hown0 (hA.below hS.1) (by simp only [List.length_nil]; omega) hS.1.size ?_; intro v1 w1 hA1; replace hS := keepS w1 (hS.1.grown hA1.grown hS.1.size (fun q hq => (hown0.lt q hq).1)); refine ⟨hS, ?_⟩
  (try simp only [Act.put, List.setIfInBounds_toArray, List.set_cons_zero, List.set_cons_succ])
  refine flow_append_row reqTd ⟨some 59, _, _, _, _, _⟩ rfl (by rfl) (.tmp 56) (.tmp 58) (by rfl) W.heap.size _ _ ([] ++ A) R (by rfl) (by rfl) hA1.own (hraw.below hS.1) (by simp only [List.nil_append]; omega) hS.1.size ?_; intro v2 w2 hA2; replace hS := keepS w2 (hS.1.grown hA2.grown hS.1.size (fun q hq => (hA1.own.lt q hq).1)); obtain ⟨p9, c9, rfl⟩ := own_form hA2.own; refine ⟨hS, ?_⟩
  (try simp only [Act.put, List.setIfInBounds_toArray, List.set_cons_zero, List.set_cons_succ])
  refine flow_run ⟨some 60, _, _, _, _, _⟩ (.slice (some ⟨w2.heap.size, 0, none⟩) 3 3) (w2.alloc (.cells #[.slice pA nA cA, .slice pB nB cB, .slice p9 ([] ++ A ++ R).length c9] 30)) rfl (by rfl) (by go_simp) (keepS _ (hS.1.alloc hS.1.size _)) ?_; replace hS := keepS (w2.alloc (.cells #[.slice pA nA cA, .slice pB nB cB, .slice p9 ([] ++ A ++ R).length c9] 30)) (hS.1.alloc hS.1.size _)
  (try simp only [Act.put, List.setIfInBounds_toArray, List.set_cons_zero, List.set_cons_succ])
  refine flow_take ⟨some 61, _, _, _, _, _⟩ ?_ rfl (by rfl) ?_ ?_
  rotate_left 1
  · intro w hSw; (try dsimp only at hSw); go_simp; (try with_reducible rfl)
  simp only [Act.put, List.setIfInBounds_toArray, List.set_cons_zero, List.set_cons_succ]
  simp only [wpFlow, OnlyN]
  have h2 := reqsIn_own hA2.own
  exact HQ.out _ _ _ _ _ _ _ _ _ w2.heap.size _ hS.1 (by simp) (fun j => Lib.cell_of_heap (heap_alloc_new w2 _) j) (h2.below (below_alloc1 _ _))

set_option maxHeartbeats 4000000 in
set_option maxRecDepth 100000 in
theorem de_r18 {s0 s1 s2 s3 s4 s6 s8 s9 s10 s12 s13 s14 s15 s16 s17 s18 s19 s20 s21 s22 s23 s24 s25 s26 s27 s28 s29 s30 s31 s32 s33 s34 s35 s36 s37 s38 s39 s40 s41 s42 s43 s44 s45 s46 s47 s48 s49 s50 s51 s52 s53 s54 s55 s56 s57 s58 s59 s60 s61 s62 s63 s64 s65 s66 s67 s68 s69 s70 s71 s72 s73 s74 s75 s76 s77 s78 s79 s80 s81 s82 s83 s84 s85 s86 s87 s88 s89 s90 s91 s92 s93 s94 s95 s96 s97 s98 s99 s100 s101 s102 s103 s104 s105 s106 s107 s108 : Value} (gr : Nat) (X : List Req) (Lr : List Off) (Mr : List Seat) (N : Int) (ovr svr lvr lv : Value) (W : World) (Q : Exit → Act → World → Prop) (hR : ∀ j, W.cell? ⟨gr, j, none⟩ = (#[ovr, svr, .int .i64 N, lvr] : Array Value)[j]?) (hgr : gr < W.heap.size) (hc : CatX W ovr svr Lr Mr) (hx : ReqX W lv X)
    (hQ : ∀ (u89 u90 u91 u92 u93 u94 u95 u96 u97 u98 u99 u100 u101 u102 u103 u104 u105 u106 u107 u108 : Value) (wx : World), RowKit.Below W.heap.size W wx → Q .normal ⟨List.toArray (s0 :: s1 :: s2 :: s3 :: s4 :: .pointer (some ⟨gr, 0, none⟩) :: .bool true :: .bool true :: s8 :: s9 :: s10 :: lv :: s12 :: s13 :: s14 :: s15 :: s16 :: s17 :: s18 :: s19 :: s20 :: s21 :: s22 :: s23 :: s24 :: s25 :: s26 :: s27 :: s28 :: s29 :: s30 :: s31 :: s32 :: s33 :: s34 :: s35 :: s36 :: s37 :: s38 :: s39 :: s40 :: s41 :: s42 :: s43 :: s44 :: s45 :: s46 :: s47 :: s48 :: s49 :: s50 :: s51 :: s52 :: s53 :: s54 :: s55 :: s56 :: s57 :: s58 :: s59 :: s60 :: s61 :: s62 :: s63 :: s64 :: s65 :: s66 :: s67 :: s68 :: s69 :: s70 :: s71 :: s72 :: s73 :: s74 :: s75 :: s76 :: s77 :: s78 :: s79 :: s80 :: s81 :: s82 :: s83 :: s84 :: s85 :: s86 :: s87 :: s88 :: u89 :: u90 :: u91 :: u92 :: u93 :: u94 :: u95 :: u96 :: u97 :: u98 :: u99 :: u100 :: u101 :: u102 :: u103 :: u104 :: u105 :: u106 :: u107 :: u108 :: []), []⟩ wx) :
    (regionOf Tryz.f3 18).wp Tryz.prog Q ⟨List.toArray (s0 :: s1 :: s2 :: s3 :: s4 :: .pointer (some ⟨gr, 0, none⟩) :: s6 :: .bool true :: s8 :: s9 :: s10 :: lv :: s12 :: s13 :: s14 :: s15 :: s16 :: s17 :: s18 :: s19 :: s20 :: s21 :: s22 :: s23 :: s24 :: s25 :: s26 :: s27 :: s28 :: s29 :: s30 :: s31 :: s32 :: s33 :: s34 :: s35 :: s36 :: s37 :: s38 :: s39 :: s40 :: s41 :: s42 :: s43 :: s44 :: s45 :: s46 :: s47 :: s48 :: s49 :: s50 :: s51 :: s52 :: s53 :: s54 :: s55 :: s56 :: s57 :: s58 :: s59 :: s60 :: s61 :: s62 :: s63 :: s64 :: s65 :: s66 :: s67 :: s68 :: s69 :: s70 :: s71 :: s72 :: s73 :: s74 :: s75 :: s76 :: s77 :: s78 :: s79 :: s80 :: s81 :: s82 :: s83 :: s84 :: s85 :: s86 :: s87 :: s88 :: s89 :: s90 :: s91 :: s92 :: s93 :: s94 :: s95 :: s96 :: s97 :: s98 :: s99 :: s100 :: s101 :: s102 :: s103 :: s104 :: s105 :: s106 :: s107 :: s108 :: []), []⟩ W := by
  refine of_onlyN (K := Q .normal) ?_ (fun _ _ h => h)
  generalize Q .normal = K at hQ ⊢
  have HQ := Lib.hid hQ; clear hQ
  conv => arg 2; whnf
  have hR' := hR
  have keepS : ∀ w', RowKit.Below W.heap.size W w' → RowKit.Below W.heap.size W w' ∧ ∀ j, w'.cell? ⟨gr, j, none⟩ = (#[ovr, svr, .int .i64 N, lvr] : Array Value)[j]? := fun w' hb => ⟨hb, fun j => (hb.cell (p := ⟨gr, j, none⟩) hgr).trans (hR j)⟩
  refine of_onlyN ?_ (fun _ _ h => h)
  refine wp_region_flow (S := fun w' => RowKit.Below W.heap.size W w' ∧ ∀ j, w'.cell? ⟨gr, j, none⟩ = (#[ovr, svr, .int .i64 N, lvr] : Array Value)[j]?) [(0, true), (1, true), (2, true), (3, true), (4, true), (5, true), (6, true), (7, true), (8, true), (10, true), (11, true), (12, true), (13, true), (14, true), (15, true), (16, true), (9, false), (17, false), (18, false), (19, true), (20, true)] (by kernel_rfl) (by kernel_rfl) (by kernel_rfl) (by decide) (keepS _ (Below.refl _ _).drew) ?_
  have hS := keepS _ (Below.refl _ _).drew
  refine flow_take ⟨some 89, _, _, _, _, _⟩ ?_ rfl (by rfl) ?_ ?_
  rotate_left 1
  · intro w hSw; (try dsimp only at hSw); go_simp; (try with_reducible rfl)
  simp only [Act.put, List.setIfInBounds_toArray, List.set_cons_zero, List.set_cons_succ]
  refine flow_take ⟨some 90, _, _, _, _, _⟩ ?_ rfl (by rfl) ?_ ?_
  rotate_left 1
  · intro w hSw; (try dsimp only at hSw); go_simp; (try with_reducible rfl)
  simp only [Act.put, List.setIfInBounds_toArray, List.set_cons_zero, List.set_cons_succ]
  refine flow_take ⟨some 91, _, _, _, _, _⟩ ?_ rfl (by rfl) ?_ ?_
  rotate_left 1
  · intro w hSw; (try dsimp only at hSw); go_simp; (try with_reducible rfl)
  simp only [Act.put, List.setIfInBounds_toArray, List.set_cons_zero, List.set_cons_succ]
  refine flow_take ⟨some 92, _, _, _, _, _⟩ ?_ rfl (by rfl) ?_ ?_
  rotate_left 1
  · intro w hSw; (try dsimp only at hSw); go_simp; (try with_reducible rfl)
  simp only [Act.put, List.setIfInBounds_toArray, List.set_cons_zero, List.set_cons_succ]
  refine flow_take ⟨some 93, _, _, _, _, _⟩ ?_ rfl (by rfl) ?_ ?_
  rotate_left 1
  · intro w hSw; (try dsimp only at hSw); go_simp; (try with_reducible rfl)
  simp only [Act.put, List.setIfInBounds_toArray, List.set_cons_zero, List.set_cons_succ]
  refine flow_take ⟨some 94, _, _, _, _, _⟩ ?_ rfl (by rfl) ?_ ?_
  rotate_left 1
  · intro w hSw; (try dsimp only at hSw); go_simp; (try with_reducible rfl)
  simp only [Act.put, List.setIfInBounds_toArray, List.set_cons_zero, List.set_cons_succ]
  refine flow_take ⟨some 95, _, _, _, _, _⟩ ?_ rfl (by rfl) ?_ ?_
  rotate_left 1
  · intro w hSw; (try dsimp only at hSw); go_simp; (try with_reducible rfl)
  simp only [Act.put, List.setIfInBounds_toArray, List.set_cons_zero, List.set_cons_succ]
  refine flow_take ⟨some 96, _, _, _, _, _⟩ ?_ rfl (by rfl) ?_ ?_
  rotate_left 1
  · intro w hSw; (try dsimp only at hSw); go_simp; (try with_reducible rfl)
  simp only [Act.put, List.setIfInBounds_toArray, List.set_cons_zero, List.set_cons_succ]
  refine flow_take ⟨some 97, _, _, _, _, _⟩ ?_ rfl (by rfl) ?_ ?_
  rotate_left 1
  · intro w hSw; (try dsimp only at hSw); go_simp; (try with_reducible rfl)
  simp only [Act.put, List.setIfInBounds_toArray, List.set_cons_zero, List.set_cons_succ]
  refine flow_take ⟨some 99, _, _, _, _, _⟩ ?_ rfl (by rfl) ?_ ?_
  rotate_left 1
  · intro w hSw; (try dsimp only at hSw); go_simp; (try with_reducible rfl)
  simp only [Act.put, List.setIfInBounds_toArray, List.set_cons_zero, List.set_cons_succ]
  refine flow_take ⟨some 100, _, _, _, _, _⟩ ?_ rfl (by rfl) ?_ ?_
  rotate_left 1
  · intro w hSw; (try dsimp only at hSw); go_simp; (try with_reducible rfl)
  simp only [Act.put, List.setIfInBounds_toArray, List.set_cons_zero, List.set_cons_succ]
  refine flow_take ⟨some 101, _, _, _, _, _⟩ ?_ rfl (by rfl) ?_ ?_
  rotate_left 1
  · intro w hSw; (try dsimp only at hSw); go_simp; (try with_reducible rfl)
  simp only [Act.put, List.setIfInBounds_toArray, List.set_cons_zero, List.set_cons_succ]
  refine flow_take ⟨some 102, _, _, _, _, _⟩ ?_ rfl (by rfl) ?_ ?_
  rotate_left 1
  · intro w hSw; (try dsimp only at hSw); go_simp; (try with_reducible rfl)
  simp only [Act.put, List.setIfInBounds_toArray, List.set_cons_zero, List.set_cons_succ]
  refine flow_take ⟨some 103, _, _, _, _, _⟩ ?_ rfl (by rfl) ?_ ?_
  rotate_left 1
  · intro w hSw; (try dsimp only at hSw); go_simp; (try with_reducible rfl)
  simp only [Act.put, List.setIfInBounds_toArray, List.set_cons_zero, List.set_cons_succ]
  refine flow_take ⟨some 104, _, _, _, _, _⟩ ?_ rfl (by rfl) ?_ ?_
  rotate_left 1
  · intro w hSw; (try dsimp only at hSw); go_simp; (try with_reducible rfl)
  simp only [Act.put, List.setIfInBounds_toArray, List.set_cons_zero, List.set_cons_succ]
  refine flow_take ⟨some 105, _, _, _, _, _⟩ ?_ rfl (by rfl) ?_ ?_
  rotate_left 1
  · intro w hSw; (try dsimp only at hSw); go_simp; (try with_reducible rfl)
  simp only [Act.put, List.setIfInBounds_toArray, List.set_cons_zero, List.set_cons_succ]
  refine flow_call ⟨some 98, _, _, _, _, _⟩ rfl (by rfl) 10 _ _ (by rfl) _ (by rfl) Tryz.call10 (deal_x N hc hx hS.1) ?_; rintro x wn ⟨v1, rfl, hd1, hb⟩; replace hS := (fun hS hb => keepS _ (below_next hS.1 hb)) hS hb; refine ⟨_, rfl, hS, ?_⟩; (try clear hb)
  simp only [Act.put, List.setIfInBounds_toArray, List.set_cons_zero, List.set_cons_succ]
  refine flow_call ⟨some 106, _, _, _, _, _⟩ rfl (by rfl) 11 _ _ (by rfl) _ (by rfl) Tryz.call11 (refd_x N hc hx hS.1) ?_; rintro x wn ⟨v2, rfl, hd2, hb⟩; replace hS := (fun hS hb => keepS _ (below_next hS.1 hb)) hS hb; replace hd1 := hd1.below hb; refine ⟨_, rfl, hS, ?_⟩; (try clear hb)
  simp only [Act.put, List.setIfInBounds_toArray, List.set_cons_zero, List.set_cons_succ]
  refine flow_call ⟨some 107, _, _, _, _, _⟩ rfl (by rfl) 9 _ _ (by rfl) _ (by rfl) Tryz.call9 (same_x hd1 hd2) ?_; rintro x wn ⟨rfl, hb⟩; replace hS := (fun hS hb => keepS _ (below_next hS.1 hb)) hS hb; refine ⟨_, rfl, hS, ?_⟩; (try clear hb)
  simp only [Act.put, List.setIfInBounds_toArray, List.set_cons_zero, List.set_cons_succ]
  refine flow_take ⟨some 108, _, _, _, _, _⟩ ?_ rfl (by rfl) ?_ ?_
  rotate_left 1
  · intro w hSw; (try dsimp only at hSw); go_simp; (try with_reducible rfl)
  simp only [Act.put, List.setIfInBounds_toArray, List.set_cons_zero, List.set_cons_succ]
  refine flow_take ⟨some 6, _, _, _, _, _⟩ ?_ rfl (by rfl) ?_ ?_
  rotate_left 1
  · intro w hSw; (try dsimp only at hSw); go_simp; (try with_reducible rfl)
  simp only [Act.put, List.setIfInBounds_toArray, List.set_cons_zero, List.set_cons_succ]
  simp only [wpFlow, OnlyN]
  exact HQ.out _ _ _ _ _ _ _ _ _ _ _ _ _ _ _ _ _ _ _ _ _ hS.1

end Go.Proofs.YteopjiedjnaeiaaGreat
