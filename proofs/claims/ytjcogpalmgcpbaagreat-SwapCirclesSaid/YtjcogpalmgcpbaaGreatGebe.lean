/- The examples of the chapter: quadriviumlaw29.sanity returns true. -/
import Derived.Test.YtjcogpalmgcpbaaGreatGeao
import Derived.Test.YtjcogpalmgcpbaaGreatGeax
import Derived.Test.YtjcogpalmgcpbaaGreatGeau
import Derived.Test.YtjcogpalmgcpbaaGreatGeaj
import Derived.Test.YtjcogpalmgcpbaaGreatGebd
/- quadriviumlaw29: has and is. -/
namespace Go.Proofs.YtjcogpalmgcpbaaGreat
open Go Go.Proofs Go.RowKit Go.Maps Go.Sort Go.Lib
attribute [local go_sem ↓] seat_eql seat_load
set_option maxHeartbeats 1000000 in
theorem has29_any (v : Value) (l : List Seat) (s : Seat) (w : World) (h : RowIn Seat.cells w v l) (hl : l.length ≤ 1000000) :
    Calls Tryz.prog 11 #[v, .agg #[.int .i64 s.student, .string s.code]] w fun e w' => e = .returned (.bool (decide (s ∈ l))) ∧ RowKit.Below w.heap.size w w' := by
  obtain ⟨q, c, rfl, _⟩ := h.form
  have hb0 : RowKit.Below w.heap.size w (w.alloc (.cells s.cells.toArray 38)) := below_alloc1 _ _
  have H := Lib.hid h
  have hc0 : ∀ j, (w.alloc (.cells s.cells.toArray 38)).cell? ⟨w.heap.size, j, none⟩ = s.cells.toArray[j]? := fun j => Lib.cell_of_heap (heap_alloc_new w _) j
  clear h
  go_enter Tryz.func11, Tryz.ntmps11
  simp only [Seat.cells] at hb0 hc0
  go_wp2_with fail
  generalize w.alloc _ = w0 at hb0 hc0 ⊢
  go_loopw [5] (fun i wr => ∃ k : Nat, k ≤ l.length ∧ i = .int .i64 k ∧ Hid (s ∉ l.take k) ∧ RowKit.Below w.heap.size w wr ∧ (∀ j, wr.cell? ⟨w.heap.size, j, none⟩ = (#[.int .i64 s.student, .string s.code] : Array Value)[j]?)) (fun i _ => l.length - (RowKit.intOf i).toNat)
  case atStart => exact ⟨0, Nat.zero_le _, rfl, Lib.hid (by simp), hb0, hc0⟩
  case round =>
    clear hb0 hc0
    obtain ⟨k, hk, rfl, HK, hb0, hc0⟩ := hrel
    by_cases hlt : k < l.length
    · obtain ⟨b, o, c', hv, _, hbl, hx⟩ := H.out.at_ (k := 2) (fun _ => rfl) (by omega)
      have e1 := (Value.slice.inj hv).1
      subst e1
      have hz := List.getElem?_eq_getElem hlt
      have hat := hx k _ hz
      generalize l[k] = x at hz hat
      have h0 : wr.cell? ⟨b, o + k * 2, none⟩ = some (.int .i64 x.student) := by rw [hb0.cell (p := ⟨b, o + k * 2, none⟩) hbl]; exact hat 0 _ rfl
      have h1 : wr.cell? ⟨b, o + k * 2 + 1, none⟩ = some (.string x.code) := by rw [hb0.cell (p := ⟨b, o + k * 2 + 1, none⟩) hbl]; exact hat 1 _ rfl
      have HZ := Lib.hid hz
      clear hv hx hz hat
      obtain ⟨G, hG⟩ : ∃ G, eqSeat ⟨x.student, x.code⟩ ⟨s.student, s.code⟩ = G := ⟨_, rfl⟩
      have HG : Hid (eqSeat x s = G) := Lib.hid hG
      cases G
      · go_wp2_with fail
        go_quiet (fail)
        go_wp2_with fail
        go_roundw
        case rel => exact ⟨k + 1, by omega, by go_num, Lib.hid (not_take HZ.out HK.out (by rw [Bool.eq_false_iff]; intro e; have := (eqSeat_iff s x).1 e; subst this; rw [(eqSeat_iff s s).2 rfl] at HG; cases HG.out)), blw_drewN hb0 _, hc0⟩
        case measure => simp [RowKit.intOf]; omega
      · go_wp2_with fail
        go_quiet (fail)
        go_wp2_with fail
        go_ret
        exact ⟨ret_bool (by rw [eq_comm, decide_eq_true_eq, ← (eqSeat_iff x s).1 HG.out]; exact List.mem_of_getElem? HZ.out), blw_drewN hb0 _⟩
    · obtain rfl : k = l.length := by omega
      have hk2 := HK.out
      rw [List.take_length] at hk2
      go_wp2_with fail
      go_ret
      exact ⟨ret_bool (by rw [decide_eq_false hk2]), hb0⟩
set_option maxHeartbeats 1000000 in
theorem is29_any (v u : Value) (A B : List Nat) (w : World) (hv : RowIn encN w v A) (hu : RowIn encN w u B) (la : A.length ≤ 1000000) (_lb : B.length ≤ 1000000) :
    Calls Tryz.prog 16 #[v, u] w fun e w' => e = .returned (.bool (decide (A = B))) ∧ RowKit.Below w.heap.size w w' := by
  obtain ⟨q, c, rfl, _⟩ := hv.form
  obtain ⟨r, d, rfl, _⟩ := hu.form
  by_cases hlen : A.length = B.length
  · have hne : ((A.length : Int) != (A.length : Int)) = false := by simp
    obtain ⟨n, hn⟩ : ∃ n, A.length = n := ⟨_, rfl⟩
    rw [hn] at hlen
    rw [hn, ← hlen]
    rw [hn] at la
    have HV : Hid (RowIn encN w (.slice q n c) A) := Lib.hid (by rw [← hn]; exact hv)
    have HU : Hid (RowIn encN w (.slice r n d) B) := Lib.hid (by rw [hlen]; exact hu)
    have HN := Lib.hid hn
    have HL := Lib.hid hlen
    clear hv hu hn hlen hne
    have hne : ((n : Int) != (n : Int)) = false := by simp
    go_enter Tryz.func16, Tryz.ntmps16
    go_wp2_with fail
    go_loopw [5] (fun i wr => ∃ k : Nat, k ≤ n ∧ i = .int .i64 k ∧ Hid (A.take k = B.take k) ∧ RowKit.Below w.heap.size w wr) (fun i _ => n - (RowKit.intOf i).toNat)
    case atStart => exact ⟨0, Nat.zero_le _, rfl, Lib.hid rfl, Below.refl _ _⟩
    case round =>
      obtain ⟨k, hk, rfl, HK, hb0⟩ := hrel
      by_cases hlt : k < n
      · obtain ⟨b, o, c', hv, _, hbl, hx⟩ := HV.out.at_ (k := 1) (fun _ => rfl) (by have := HN.out; omega)
        obtain ⟨b2, o2, c2, hv2, _, hbl2, hx2⟩ := HU.out.at_ (k := 1) (fun _ => rfl) (by have := HL.out; omega)
        have e1 := (Value.slice.inj hv).1
        have e2 := (Value.slice.inj hv2).1
        subst e1; subst e2
        obtain ⟨x, hz⟩ : ∃ x, A[k]? = some x := ⟨_, List.getElem?_eq_getElem (show k < A.length by have := HN.out; omega)⟩
        obtain ⟨y, hz2⟩ : ∃ y, B[k]? = some y := ⟨_, List.getElem?_eq_getElem (show k < B.length by have := HL.out; omega)⟩
        have hat := hx k _ hz
        have hat2 := hx2 k _ hz2
        have h0 : wr.cell? ⟨b, o + k * 1, none⟩ = some (.int .i64 x) := by rw [hb0.cell (p := ⟨b, o + k * 1, none⟩) hbl]; exact hat 0 _ rfl
        have h1 : wr.cell? ⟨b2, o2 + k * 1, none⟩ = some (.int .i64 y) := by rw [hb0.cell (p := ⟨b2, o2 + k * 1, none⟩) hbl2]; exact hat2 0 _ rfl
        rw [Nat.mul_one] at h0 h1
        have HZ := Lib.hid hz
        have HZ2 := Lib.hid hz2
        clear hv hx hz hat hv2 hx2 hz2 hat2
        by_cases hxy : x = y
        · subst hxy
          have htn : ((x : Int) != (x : Int)) = false := by simp
          go_wp2_with fail
          go_quiet (fail)
          go_wp2_with fail
          go_roundw
          case rel => exact ⟨k + 1, by omega, by go_num, Lib.hid (by rw [List.take_add_one, List.take_add_one, HK.out, HZ.out, HZ2.out]), blw_drewN hb0 _⟩
          case measure => simp [RowKit.intOf]; omega
        · have htn : ((x : Int) != (y : Int)) = true := by simp; omega
          have HXY := Lib.hid hxy
          clear hxy
          go_wp2_with fail
          go_quiet (fail)
          go_wp2_with fail
          go_ret
          refine ⟨ret_bool ?_, blw_drewN hb0 _⟩
          rw [eq_comm, decide_eq_false_iff_not]
          intro e
          subst e
          have := HZ.out
          rw [HZ2.out] at this
          exact HXY.out (Option.some.inj this).symm
      · obtain rfl : k = n := by omega
        have hk2 := HK.out
        rw [← HN.out, List.take_length, HN.out, HL.out, List.take_length] at hk2
        go_wp2_with fail
        go_ret
        exact ⟨ret_bool (by rw [decide_eq_true hk2]), hb0⟩
  · have hne : ((A.length : Int) != (B.length : Int)) = true := by simp; omega
    have HN := Lib.hid hlen
    clear hlen
    go_enter Tryz.func16, Tryz.ntmps16
    go_wp2_with fail
    go_ret
    exact ⟨ret_bool (by rw [eq_comm, decide_eq_false_iff_not]; intro e; exact HN.out (by rw [e])), Below.refl _ _⟩
end Go.Proofs.YtjcogpalmgcpbaaGreat
/- Two students who wait for each other's place exchange them, in plain words. -/
/- Two students who wait for each other's place, in plain words. -/
namespace Go.Proofs.YtjcogpalmgcpbaaGreat
open Go Go.Proofs Go.RowKit Go.Sort Go.Lib

abbrev cA : ByteArray := ⟨#[65, 49]⟩
abbrev cB : ByteArray := ⟨#[66, 49]⟩
theorem cAB : cA ≠ cB := by decide
theorem canP_congr {A A' : List Req} (h : ∀ r, r ∈ A ↔ r ∈ A') (d : Deal) (l : List Req) : canP A d l = canP A' d l := by
  unfold canP canTo
  congr 1
  funext i
  unfold canB
  rw [show decide (atR l i ∈ A) = decide (atR l i ∈ A') from by rw [Bool.eq_iff_iff, decide_eq_true_eq, decide_eq_true_eq]; exact h _]
/-- No circle where no index is less than another one. -/
theorem no_circle {l : List Req} {can : List Nat} (h : ∀ n ∈ can, ∀ m ∈ can, ¬ n < m) {c : List Nat} : ¬ isB l can c = true := fun hc => by
  obtain ⟨h2, _, h3, _⟩ := isB_iff.1 hc
  match c, h2, h3 with
  | a :: b :: c, _, h3 =>
    have h0 := h3 0 a rfl
    have h1 := h3 1 b rfl
    have hf := h1.2
    unfold followsB at hf
    simp only [List.take_succ_cons, List.take_zero, List.isEmpty_cons, Bool.false_or, List.headD_cons, Bool.and_eq_true] at hf
    exact h a h0.1 b h1.1 (of_decide_eq_true hf.1.1)
theorem circle_none {L : List Off} {M : List Seat} {most : Int} {l : List Req} {d : Deal} (h : ∀ n ∈ canP (actS l) d l, ∀ m ∈ canP (actS l) d l, ¬ n < m) : circleP L M most l d = none := by
  unfold circleP
  rw [List.find?_eq_none]
  intro c hc
  exact absurd (mem_allC.1 hc) (no_circle h)
/-- The two requests. -/
def rqA (a t : Int) : Req := ⟨1, 1, false, a, t, cB, cA, 0, 0⟩
def rqB (b t : Int) : Req := ⟨1, 2, false, b, t, cA, cB, 0, 0⟩
def twoR (a b t : Int) : List Req := [rqA a t, rqB b t]
theorem chk_rq {r : Req} {a t : Int} (ha0 : 1 ≤ a) (ha1 : a ≤ 1000) (ht0 : 0 ≤ t) (ht1 : t ≤ 1) (hr : r = rqA a t ∨ r = rqB a t) : chkR r = 0 := by
  have e1 : ∀ (q : Int) (c g : ByteArray), eqReq ⟨1, q, false, a, t, c, g, 0, 0⟩ ⟨1, q, true, 0, 0, ⟨#[]⟩, ⟨#[]⟩, 0, 0⟩ = false := fun q c g => by simp [eqReq]
  have c1 : codeL (cA : ByteArray).data.toList = true := by decide
  have c2 : codeL (cB : ByteArray).data.toList = true := by decide
  have d1 : rightB 0 = true := by decide
  have n1 : (cA.toList == cB.toList) = false := by rw [beq_eq_false_iff_ne, ne_eq, req_ba]; exact cAB
  have n2 : (cB.toList == cA.toList) = false := by rw [beq_eq_false_iff_ne, ne_eq, req_ba]; exact cAB.symm
  rcases hr with rfl | rfl
  · unfold rqA
    rw [chkR_eq, e1 1 cB cA]
    simp only [c1, c2, d1, n1]
    rw [if_neg (by decide), if_neg (by decide), if_neg (by decide), if_neg (by simp), if_neg (by simp), if_neg (by omega), if_neg (by omega), if_neg (by omega), if_neg (by omega), if_neg (by decide), if_neg (by decide), if_neg (by simp), if_neg (by simp), if_neg (by simp), if_neg (by simp)]
  · unfold rqB
    rw [chkR_eq, e1 2 cA cB]
    simp only [c1, c2, d1, n2]
    rw [if_neg (by decide), if_neg (by decide), if_neg (by decide), if_neg (by simp), if_neg (by simp), if_neg (by omega), if_neg (by omega), if_neg (by omega), if_neg (by omega), if_neg (by decide), if_neg (by decide), if_neg (by simp), if_neg (by simp), if_neg (by simp), if_neg (by simp)]
theorem cmp_rq (a b t : Int) : cmpR (rqA a t) (rqB b t) < 0 := by
  have : cmpR (rqA a t) (rqB b t) = orL (Lib.compareInt 1 1 :: Lib.compareInt 1 2 :: ((keysR (rqA a t) (rqB b t)).drop 2 ++ tailR (rqA a t) (rqB b t))) := rfl
  rw [this]
  simp only [orL]
  rw [if_pos (by decide), if_neg (by decide)]
  decide
theorem two_set (a b t : Int) : IsSet (twoR a b t) (twoR a b t) :=
  ⟨by unfold twoR; rw [List.pairwise_cons]; exact ⟨fun x hx => by rw [List.mem_singleton] at hx; subst hx; exact cmp_rq a b t, List.pairwise_singleton _ _⟩, fun _ => Iff.rfl⟩
theorem two_act {a b t : Int} (ha0 : 1 ≤ a) (ha1 : a ≤ 1000) (hb0 : 1 ≤ b) (hb1 : b ≤ 1000) (ht0 : 0 ≤ t) (ht1 : t ≤ 1) : actS (twoR a b t) = twoR a b t := by
  rw [actS_eq (two_set a b t)]
  refine actR_whole (fun r hr => ?_) ?_
  · unfold twoR at hr
    simp only [List.mem_cons, List.not_mem_nil, or_false] at hr
    rcases hr with rfl | rfl
    · exact ⟨chk_rq ha0 ha1 ht0 ht1 (.inl rfl), rfl⟩
    · exact ⟨chk_rq hb0 hb1 ht0 ht1 (.inr rfl), rfl⟩
  · unfold twoR
    rw [List.pairwise_cons]
    exact ⟨fun x hx => by rw [List.mem_singleton] at hx; subst hx; simp [numR, rqA, rqB], List.pairwise_singleton _ _⟩
/-- The catalog. -/
def twoL (b1 b2 : Nat) (x y p : Int) : List Off := [⟨cA, x, p, some ⟨b1, 0, none⟩, 1, none, 0, [1], []⟩, ⟨cB, y, p, some ⟨b2, 0, none⟩, 1, none, 0, [2], []⟩]
section
variable (b1 b2 : Nat) (x y p : Int)
theorem find_A : findO (twoL b1 b2 x y p) cA = some ⟨cA, x, p, some ⟨b1, 0, none⟩, 1, none, 0, [1], []⟩ := by simp [findO, twoL]
theorem find_B : findO (twoL b1 b2 x y p) cB = some ⟨cB, y, p, some ⟨b2, 0, none⟩, 1, none, 0, [2], []⟩ := by
  unfold findO twoL
  rw [List.find?_cons_of_neg (by rw [decide_eq_true_eq, req_ba]; exact cAB), List.find?_cons_of_pos (by simp)]
theorem get_A : getO (twoL b1 b2 x y p) cA = ⟨cA, x, p, some ⟨b1, 0, none⟩, 1, none, 0, [1], []⟩ := by unfold getO; rw [find_A]; rfl
theorem get_B : getO (twoL b1 b2 x y p) cB = ⟨cB, y, p, some ⟨b2, 0, none⟩, 1, none, 0, [2], []⟩ := by unfold getO; rw [find_B]; rfl
end
/-- The others, who have both places. -/
def oth : Nat → List Seat
  | 0 => []
  | k + 1 => oth k ++ [⟨2000 + k, cA⟩, ⟨2000 + k, cB⟩]
theorem oth_student : ∀ (k : Nat) (s : Seat), s ∈ oth k → ∃ i : Nat, i < k ∧ s.student = 2000 + (i : Int)
  | 0, _, h => by cases h
  | k + 1, s, h => by
    rw [oth, List.mem_append] at h
    rcases h with h | h
    · obtain ⟨i, hi, e⟩ := oth_student k s h
      exact ⟨i, by omega, e⟩
    · simp only [List.mem_cons, List.not_mem_nil, or_false] at h
      rcases h with rfl | rfl <;> exact ⟨k, by omega, rfl⟩
theorem oth_len : ∀ k, (oth k).length = 2 * k
  | 0 => rfl
  | k + 1 => by rw [oth, List.length_append, oth_len k]; simp; omega
theorem oth_taken : ∀ (k : Nat) (l : List Seat) (c : ByteArray), c = cA ∨ c = cB → takenF (l ++ oth k) c = takenF l c + k
  | 0, l, c, _ => by simp [oth]
  | k + 1, l, c, h => by
    rw [oth, ← List.append_assoc, show (l ++ oth k) ++ [⟨2000 + (k : Int), cA⟩, ⟨2000 + k, cB⟩] = ((l ++ oth k) ++ [⟨2000 + (k : Int), cA⟩]) ++ [⟨2000 + k, cB⟩] by simp, takenF_snoc, takenF_snoc, oth_taken k l c h]
    rcases h with rfl | rfl
    · rw [if_pos rfl, if_neg (by rw [req_ba]; exact cAB.symm)]; omega
    · rw [if_neg (by rw [req_ba]; exact cAB), if_pos rfl]; omega
/-- Two seats of two students, one of each course. -/
structure Base (a b : Int) (l : List Seat) : Prop where
  len : l.length = 2
  st : ∀ s ∈ l, s.student = a ∨ s.student = b
  tA : takenF l cA = 1
  tB : takenF l cB = 1
theorem sumC_none {L : List Off} {l : List Seat} {st : Int} (h : ∀ s ∈ l, s.student ≠ st) : sumC L l st = 0 := by
  unfold sumC
  rw [List.filter_eq_nil_iff.2 (fun s hs => by simpa using h s hs)]
  rfl
theorem clash_none {L : List Off} {l : List Seat} {st : Int} {o : Off} (h : ∀ s ∈ l, s.student ≠ st) : clashF L o l st = false := by
  unfold clashF
  rw [List.any_eq_false]
  intro s hs
  rw [decide_eq_false (h s hs)]
  simp
theorem two_calm {b1 b2 : Nat} {x y p : Int} (x0 : 0 ≤ x) (x1 : x ≤ 60) (y0 : 0 ≤ y) (y1 : y ≤ 60) : Calm (twoL b1 b2 x y p) := fun o ho => by
  unfold twoL at ho
  simp only [List.mem_cons, List.not_mem_nil, or_false] at ho
  rcases ho with rfl | rfl <;> dsimp only <;> omega
section
variable {b1 b2 : Nat} {x y p most : Int} {M : List Seat} {a b : Int} {n : Nat}
theorem two_oks (x0 : 1 ≤ x) (x1 : x ≤ 60) (y0 : 1 ≤ y) (y1 : y ≤ 60) (hp : p = (n : Int) + 1) (hm : x + y ≤ most) (ha0 : 1 ≤ a) (ha1 : a ≤ 1000) (hb0 : 1 ≤ b) (hb1 : b ≤ 1000) {l : List Seat} (hB : Base a b l) (hO : OkS (twoL b1 b2 x y p) M most l)
    (hM : ∀ i : Nat, i < n → (⟨2000 + i, cA⟩ : Seat) ∈ M ∧ (⟨2000 + i, cB⟩ : Seat) ∈ M) (hn : n ≤ 100) : ∀ k, k ≤ n → OkS (twoL b1 b2 x y p) M most (l ++ oth k) := by
  have hc := two_calm (b1 := b1) (b2 := b2) (p := p) (show 0 ≤ x by omega) x1 (show 0 ≤ y by omega) y1
  intro k hk
  induction k with
  | zero => simpa [oth] using hO
  | succ k ih =>
    have ih := ih (by omega)
    have hst : ∀ s ∈ l ++ oth k, s.student ≠ 2000 + (k : Int) := fun s hs e => by
      rw [List.mem_append] at hs
      rcases hs with hs | hs
      · rcases hB.st s hs with h | h <;> omega
      · obtain ⟨i, hi, h⟩ := oth_student k s hs
        omega
    have hlen : (l ++ oth k).length = 2 + 2 * k := by rw [List.length_append, hB.len, oth_len]
    rw [oth, ← List.append_assoc, show (l ++ oth k) ++ [⟨2000 + (k : Int), cA⟩, ⟨2000 + k, cB⟩] = ((l ++ oth k) ++ [⟨2000 + (k : Int), cA⟩]) ++ [⟨2000 + k, cB⟩] by simp, okS_snoc, okS_snoc]
    refine ⟨⟨ih, ?_⟩, ?_⟩
    · rw [fitsP_zero]
      refine ⟨by show (findO _ cA).isSome = true; rw [find_A]; rfl, fun h => hst _ h rfl, (hM k (by omega)).1, ?_, clash_none hst, ?_⟩
      · show (takenF (l ++ oth k) cA : Int) < (getO (twoL b1 b2 x y p) cA).places
        rw [oth_taken k l cA (.inl rfl), hB.tA, get_A]; dsimp only; omega
      · show creditsF (twoL b1 b2 x y p) (l ++ oth k) (2000 + (k : Int)) (getO (twoL b1 b2 x y p) cA).credits ≤ most
        rw [get_A, creditsF_eq hc _ _ _ (by dsimp only; omega) (by rw [hlen]; dsimp only; omega), sumC_none hst]; dsimp only; omega
    · have hst2 : sumC (twoL b1 b2 x y p) ((l ++ oth k) ++ [⟨2000 + (k : Int), cA⟩]) (2000 + (k : Int)) = x := by
        rw [sumC_snoc, sumC_none hst, if_pos rfl]
        show 0 + (getO (twoL b1 b2 x y p) cA).credits = x
        rw [get_A]; dsimp only; omega
      rw [fitsP_zero]
      refine ⟨by show (findO _ cB).isSome = true; rw [find_B]; rfl, fun h => ?_, (hM k (by omega)).2, ?_, ?_, ?_⟩
      · rw [List.mem_append, List.mem_singleton] at h
        rcases h with h | h
        · exact hst _ h rfl
        · exact cAB (congrArg Seat.code h).symm
      · show (takenF ((l ++ oth k) ++ [⟨2000 + (k : Int), cA⟩]) cB : Int) < (getO (twoL b1 b2 x y p) cB).places
        rw [takenF_snoc, if_neg (by rw [req_ba]; exact cAB), oth_taken k l cB (.inr rfl), hB.tB, get_B]; dsimp only; omega
      · show clashF (twoL b1 b2 x y p) (getO (twoL b1 b2 x y p) cB) ((l ++ oth k) ++ [⟨2000 + (k : Int), cA⟩]) (2000 + (k : Int)) = false
        unfold clashF
        rw [List.any_append, show (l ++ oth k).any _ = false from clash_none hst, List.any_cons, get_A, get_B]
        simp [clashO]
      · show creditsF (twoL b1 b2 x y p) ((l ++ oth k) ++ [⟨2000 + (k : Int), cA⟩]) (2000 + (k : Int)) (getO (twoL b1 b2 x y p) cB).credits ≤ most
        rw [get_B, creditsF_eq hc _ _ _ (by dsimp only; omega) (by rw [List.length_append, hlen]; simp; omega), hst2]; dsimp only; omega
/-- The two seats, before and behind. -/
theorem base_one (_hab : a ≠ b) : Base a b [⟨a, cA⟩, ⟨b, cB⟩] := ⟨rfl, by simp, by simp [takenF], by simp [takenF]⟩
theorem base_two (_hab : a ≠ b) : Base a b [⟨a, cB⟩, ⟨b, cA⟩] := ⟨rfl, by simp, by simp [takenF], by simp [takenF]⟩
theorem two_ok (x0 : 1 ≤ x) (x1 : x ≤ 60) (y0 : 1 ≤ y) (y1 : y ≤ 60) (hp : p = (n : Int) + 1) (hm : x + y ≤ most) (hab : a ≠ b) {c c' : ByteArray} (hcc : c = cA ∧ c' = cB ∨ c = cB ∧ c' = cA) (hM0 : (⟨a, c⟩ : Seat) ∈ M) (hM1 : (⟨b, c'⟩ : Seat) ∈ M) : OkS (twoL b1 b2 x y p) M most [⟨a, c⟩, ⟨b, c'⟩] := by
  have hc := two_calm (b1 := b1) (b2 := b2) (p := p) (show 0 ≤ x by omega) x1 (show 0 ≤ y by omega) y1
  have hne : c ≠ c' := by rcases hcc with ⟨rfl, rfl⟩ | ⟨rfl, rfl⟩; exact cAB; exact cAB.symm
  have hfi : ∀ e, e = cA ∨ e = cB → (findO (twoL b1 b2 x y p) e).isSome = true ∧ (getO (twoL b1 b2 x y p) e).places = p ∧ 0 ≤ (getO (twoL b1 b2 x y p) e).credits ∧ (getO (twoL b1 b2 x y p) e).credits ≤ most ∧ (getO (twoL b1 b2 x y p) e).credits ≤ 60 := fun e he => by
    rcases he with rfl | rfl
    · rw [get_A, find_A]; exact ⟨rfl, rfl, by dsimp only; omega, by dsimp only; omega, x1⟩
    · rw [get_B, find_B]; exact ⟨rfl, rfl, by dsimp only; omega, by dsimp only; omega, y1⟩
  have h1 := hfi c (by rcases hcc with ⟨h, _⟩ | ⟨h, _⟩ <;> simp [h])
  have h2 := hfi c' (by rcases hcc with ⟨_, h⟩ | ⟨_, h⟩ <;> simp [h])
  have hst : ∀ s ∈ [(⟨a, c⟩ : Seat)], s.student ≠ b := fun s hs => by rw [List.mem_singleton] at hs; subst hs; exact hab
  rw [show [(⟨a, c⟩ : Seat), ⟨b, c'⟩] = ([] ++ [⟨a, c⟩]) ++ [⟨b, c'⟩] from rfl, okS_snoc, okS_snoc]
  refine ⟨⟨okS_nil _ _ _, ?_⟩, ?_⟩
  · rw [fitsP_zero]
    refine ⟨h1.1, by simp, hM0, ?_, rfl, ?_⟩
    · show ((0 : Nat) : Int) < (getO (twoL b1 b2 x y p) c).places
      rw [h1.2.1]; omega
    · exact h1.2.2.2.1
  · rw [fitsP_zero]
    refine ⟨h2.1, fun h => ?_, hM1, ?_, clash_none hst, ?_⟩
    · rw [List.nil_append, List.mem_singleton] at h
      exact hab (congrArg Seat.student h).symm
    · show (takenF ([] ++ [(⟨a, c⟩ : Seat)]) c' : Int) < (getO (twoL b1 b2 x y p) c').places
      rw [takenF_snoc, if_neg (by rw [req_ba]; exact hne), h2.2.1]
      show ((0 + 0 : Nat) : Int) < p
      omega
    · show creditsF (twoL b1 b2 x y p) ([] ++ [(⟨a, c⟩ : Seat)]) b (getO (twoL b1 b2 x y p) c').credits ≤ most
      rw [creditsF_eq hc _ _ _ h2.2.2.1 (by simp; omega), List.nil_append, sumC_none hst]
      have := h2.2.2.2.1
      omega
end
end Go.Proofs.YtjcogpalmgcpbaaGreat
namespace Go.Proofs.YtjcogpalmgcpbaaGreat
open Go Go.Proofs Go.RowKit Go.Sort Go.Lib

def dl0 (a b : Int) (n : Nat) : Deal := ⟨[⟨a, cA⟩, ⟨b, cB⟩] ++ oth n, [⟨a, cB⟩, ⟨b, cA⟩]⟩
def dl1 (a b : Int) (n : Nat) : Deal := ⟨[⟨a, cB⟩, ⟨b, cA⟩] ++ oth n, []⟩
section
variable {a b t : Int} {n : Nat}
theorem not_oth (ha1 : a ≤ 1000) (c : ByteArray) : (⟨a, c⟩ : Seat) ∉ oth n := fun h => by
  obtain ⟨i, _, e⟩ := oth_student n _ h
  simp only at e
  omega
theorem two_canA (hab : a ≠ b) (ha0 : 1 ≤ a) (ha1 : a ≤ 1000) (hb0 : 1 ≤ b) (hb1 : b ≤ 1000) (ht0 : 0 ≤ t) (ht1 : t ≤ 1) : CanR (actS (twoR a b t)) (dl0 a b n) (rqA a t) where
  give := by show ByteArray.size cA ≠ 0; decide
  ne := cAB
  has := by show (⟨a, cA⟩ : Seat) ∈ [⟨a, cA⟩, ⟨b, cB⟩] ++ oth n; simp
  wait := by show (⟨a, cB⟩ : Seat) ∈ [(⟨a, cB⟩ : Seat), ⟨b, cA⟩]; simp
  not := by
    show (⟨a, cB⟩ : Seat) ∉ [⟨a, cA⟩, ⟨b, cB⟩] ++ oth n
    rw [List.mem_append]
    rintro (h | h)
    · simp only [List.mem_cons, List.not_mem_nil, or_false, Seat.mk.injEq] at h
      rcases h with ⟨_, h⟩ | ⟨h, _⟩
      · exact cAB h.symm
      · exact hab h
    · exact not_oth ha1 _ h
  act := by rw [two_act ha0 ha1 hb0 hb1 ht0 ht1]; unfold twoR; simp
theorem two_canB (hab : a ≠ b) (ha0 : 1 ≤ a) (ha1 : a ≤ 1000) (hb0 : 1 ≤ b) (hb1 : b ≤ 1000) (ht0 : 0 ≤ t) (ht1 : t ≤ 1) : CanR (actS (twoR a b t)) (dl0 a b n) (rqB b t) where
  give := by show ByteArray.size cB ≠ 0; decide
  ne := cAB.symm
  has := by show (⟨b, cB⟩ : Seat) ∈ [⟨a, cA⟩, ⟨b, cB⟩] ++ oth n; simp
  wait := by show (⟨b, cA⟩ : Seat) ∈ [(⟨a, cB⟩ : Seat), ⟨b, cA⟩]; simp
  not := by
    show (⟨b, cA⟩ : Seat) ∉ [⟨a, cA⟩, ⟨b, cB⟩] ++ oth n
    rw [List.mem_append]
    rintro (h | h)
    · simp only [List.mem_cons, List.not_mem_nil, or_false, Seat.mk.injEq] at h
      rcases h with ⟨h, _⟩ | ⟨_, h⟩
      · exact hab h.symm
      · exact cAB h
    · exact not_oth hb1 _ h
  act := by rw [two_act ha0 ha1 hb0 hb1 ht0 ht1]; unfold twoR; simp
theorem two_can (hab : a ≠ b) (ha0 : 1 ≤ a) (ha1 : a ≤ 1000) (hb0 : 1 ≤ b) (hb1 : b ≤ 1000) (ht0 : 0 ≤ t) (ht1 : t ≤ 1) : canP (actS (twoR a b t)) (dl0 a b n) (twoR a b t) = [0, 1] := by
  unfold canP canTo
  rw [show (twoR a b t).length = 2 from rfl, show List.range 2 = [0, 1] from rfl, List.filter_cons_of_pos, List.filter_cons_of_pos, List.filter_nil]
  · rw [canB_iff]; exact two_canB hab ha0 ha1 hb0 hb1 ht0 ht1
  · rw [canB_iff]; exact two_canA hab ha0 ha1 hb0 hb1 ht0 ht1
theorem two_follows (hab : a ≠ b) : followsB (twoR a b t) [0] 1 = true := by
  unfold followsB
  simp [atR, twoR, rqA, rqB, hab]
theorem two_isB (hab : a ≠ b) : isB (twoR a b t) [0, 1] [0, 1] = true := by
  rw [isB_iff]
  refine ⟨by simp, by simp, fun i m h => ?_, by simp [closesB, atR, twoR, rqA, rqB]⟩
  match i, h with
  | 0, h => simp at h; subst h; simp [followsB]
  | 1, h => simp at h; subst h; simpa using two_follows hab
  | i + 2, h => simp at h
theorem two_back (can : List Nat) : isB (twoR a b t) can [1, 0] = false := by
  rw [Bool.eq_false_iff, ne_eq, isB_iff]
  rintro ⟨_, _, h, _⟩
  have := (h 1 0 rfl).2
  simp [followsB] at this
theorem two_alone (l : List Req) (can : List Nat) : isB l can [0] = false := by
  rw [Bool.eq_false_iff, ne_eq, isB_iff]
  rintro ⟨h, _⟩
  simp at h
theorem two_turn (hab : a ≠ b) : turnP (twoR a b t) (dl0 a b n) [0, 1] = dl1 a b n := by
  have e1 : turnP (twoR a b t) (dl0 a b n) [0, 1] = turn1 (turn1 (dl0 a b n) (rqA a t)) (rqB b t) := rfl
  have e2 : turn1 (dl0 a b n) (rqA a t) = ⟨⟨a, cB⟩ :: ⟨b, cB⟩ :: oth n, [⟨b, cA⟩]⟩ := by
    show Deal.mk ((⟨a, cA⟩ :: ⟨b, cB⟩ :: oth n).replace ⟨a, cA⟩ ⟨a, cB⟩) (([⟨a, cB⟩, ⟨b, cA⟩] : List Seat).erase ⟨a, cB⟩) = _
    rw [repl_cons, if_pos rfl, List.erase_cons_head]
  rw [e1, e2]
  show Deal.mk ((⟨a, cB⟩ :: ⟨b, cB⟩ :: oth n).replace ⟨b, cB⟩ ⟨b, cA⟩) (([⟨b, cA⟩] : List Seat).erase ⟨b, cA⟩) = _
  rw [repl_cons, if_neg (fun e => hab (congrArg Seat.student e).symm), repl_cons, if_pos rfl, List.erase_cons_head]
  rfl
theorem canP_noWaits (A : List Req) (l : List Req) (s : List Seat) : canP A ⟨s, []⟩ l = [] := by
  rw [List.eq_nil_iff_forall_not_mem]
  intro x hx
  have := (mem_canP.1 hx).2.wait
  cases this
section
variable {L : List Off} {M : List Seat} {most : Int}
theorem two_circle (hab : a ≠ b) (ha0 : 1 ≤ a) (ha1 : a ≤ 1000) (hb0 : 1 ≤ b) (hb1 : b ≤ 1000) (ht0 : 0 ≤ t) (ht1 : t ≤ 1) (hok : OkS L M most (dl1 a b n).seats) : circleP L M most (twoR a b t) (dl0 a b n) = some [0, 1] := by
  unfold circleP
  rw [two_can hab ha0 ha1 hb0 hb1 ht0 ht1]
  have e1 : extP (twoR a b t) [0, 1] 2 [] = [[0, 1]] := by
    simp [extP, followsB, closesB, atR, twoR, rqA, rqB, hab]
  unfold allC
  rw [e1, List.append_assoc, List.singleton_append, List.find?_cons_of_pos]
  unfold goodC
  rw [decide_eq_true_eq, checkP_ok, two_turn hab]
  exact hok
theorem two_done (l : List Req) : circleP L M most l (dl1 a b n) = none := circle_none (by
  unfold dl1
  rw [canP_noWaits]
  intro x hx
  cases hx)
theorem two_reach (hab : a ≠ b) (ha0 : 1 ≤ a) (ha1 : a ≤ 1000) (hb0 : 1 ≤ b) (hb1 : b ≤ 1000) (ht0 : 0 ≤ t) (ht1 : t ≤ 1) (hok : OkS L M most (dl1 a b n).seats) {T : Deal} (h : Reach L M most (twoR a b t) (dl0 a b n) T) (hT : circleP L M most (twoR a b t) T = none) : T = dl1 a b n := by
  have hc := two_circle (L := L) (M := M) (most := most) (n := n) hab ha0 ha1 hb0 hb1 ht0 ht1 hok
  cases h with
  | refl => rw [hc] at hT; cases hT
  | step h t =>
    rw [hc] at h
    obtain rfl := Option.some.inj h
    rw [two_turn hab] at t
    exact t.stop (two_done _)
/-- The first one gives nothing. -/
theorem plain_none {d : Deal} {r s : Req} (h : r.give.size = 0) : circleP L M most [r, s] d = none := circle_none (by
  have h1 : ∀ x ∈ canP (actS [r, s]) d [r, s], x = 1 := fun x hx => by
    obtain ⟨h2, h3⟩ := mem_canP.1 hx
    match x, h2 with
    | 0, _ => exact absurd h h3.give
    | 1, _ => rfl
    | x + 2, h2 => simp at h2; omega
  intro x hx y hy
  rw [h1 x hx, h1 y hy]
  omega)
end
theorem base_ok {L : List Off} {M : List Seat} {most : Int} {b1 b2 : Nat} {x y p : Int} (hL : L = twoL b1 b2 x y p) (x0 : 1 ≤ x) (x1 : x ≤ 60) (y0 : 1 ≤ y) (y1 : y ≤ 60) (hp : p = (n : Int) + 1) (hm : x + y ≤ most) (hab : a ≠ b) (ha0 : 1 ≤ a) (ha1 : a ≤ 1000) (hb0 : 1 ≤ b) (hb1 : b ≤ 1000) (hn : n ≤ 100)
    (h1 : (⟨a, cA⟩ : Seat) ∈ M) (h2 : (⟨a, cB⟩ : Seat) ∈ M) (h3 : (⟨b, cA⟩ : Seat) ∈ M) (h4 : (⟨b, cB⟩ : Seat) ∈ M)
    (hM : ∀ i : Nat, i < n → (⟨2000 + i, cA⟩ : Seat) ∈ M ∧ (⟨2000 + i, cB⟩ : Seat) ∈ M) : OkS L M most (dl0 a b n).seats ∧ OkS L M most (dl1 a b n).seats := by
  subst hL
  exact ⟨two_oks x0 x1 y0 y1 hp hm ha0 ha1 hb0 hb1 (base_one hab) (two_ok x0 x1 y0 y1 hp hm hab (.inl ⟨rfl, rfl⟩) h1 h4) hM hn n (Nat.le_refl n),
    two_oks x0 x1 y0 y1 hp hm ha0 ha1 hb0 hb1 (base_two hab) (two_ok x0 x1 y0 y1 hp hm hab (.inr ⟨rfl, rfl⟩) h2 h3) hM hn n (Nat.le_refl n)⟩
end
end Go.Proofs.YtjcogpalmgcpbaaGreat
/- quadriviumlaw29.example: the offers, the requests and the deal of the chapter's examples. -/
namespace Go.Proofs.YtjcogpalmgcpbaaGreat
open Go Go.Proofs Go.RowKit Go.Maps Go.Sort Go.Lib

theorem results_4 {fn : Func} {p t u v : Tmp} {ty : TypeId} (h : fn.results = #[.tmp t, .tmp u, .tmp v, .cell p ty]) (tmps : Array Value) (P : Program) (w : World) :
    (results fn tmps).run P w = ((asAddr (tmps.getD p undef)).run P w).andThen fun a w₁ => ((loadVar ty a).run P w₁).andThen fun x w₂ => .ok (.tuple #[tmps.getD t undef, tmps.getD u undef, tmps.getD v undef, x]) w₂ := by
  simp only [results, h]
  simp [Sem.run_bind, Result.andThen]
theorem deal_results4 {fn : Func} {p t u v : Tmp} (h : fn.results = #[.tmp t, .tmp u, .tmp v, .cell p 31]) (tmps : Array Value) (w : World) (g : Nat) (cs : Array Value) (hs : cs.size = 2) (hp : tmps.getD p undef = .pointer (some ⟨g, 0, none⟩)) (hg : w.heap[g]? = some (.cells cs 31 (0, 0))) :
    (results fn tmps).run Tryz.prog w = .ok (.tuple #[tmps.getD t undef, tmps.getD u undef, tmps.getD v undef, .agg cs]) w := by
  rw [results_4 h, hp]
  have hz : (Tryz.prog.info? 31).map (·.size) = some 2 := by kernel_rfl
  have := run_loadVar_row (P := Tryz.prog) w g 31 31 cs (0, 0) _ hg Tryz.underlying31 rfl (by rw [hz, hs])
  simp only [asAddr, Sem.run_pure, Result.andThen_ok, this]
/-- Rows, and another block that has changed. -/
theorem row_other {α : Type} {enc : α → List Value} {w w' : World} {q o n c b : Nat} {L : List α} (h : RowIn enc w (.slice (some ⟨q, o, none⟩) n c) L) (hg : w.grownBy w' (some b)) (hne : q ≠ b) : RowIn enc w' (.slice (some ⟨q, o, none⟩) n c) L := by
  obtain ⟨p, c', hv, hc, hz, hr⟩ := h
  refine ⟨p, c', hv, hc, hz, fun hl => ?_⟩
  obtain ⟨b', o', hp, hb, hx⟩ := hr hl
  subst hp
  injection hv with e1 e2 e3
  injection e1 with e1
  injection e1 with e1 e4
  subst e1
  exact ⟨_, _, rfl, Nat.lt_of_lt_of_le hb hg.size, fun j u hj => hg.cell (hx j u hj) (fun e => hne (Option.some.inj e))⟩
theorem reqs_other {w w' : World} {q o n c b : Nat} {L : List Req} (h : ReqsIn w (.slice (some ⟨q, o, none⟩) n c) L) (hg : w.grownBy w' (some b)) (hne : q ≠ b) : ReqsIn w' (.slice (some ⟨q, o, none⟩) n c) L := by
  rcases h with ⟨h, _⟩ | ⟨b', o', c', h1, h2, h3, h4⟩
  · cases h
  · injection h1 with e1 e2 e3
    injection e1 with e1
    injection e1 with e1 e4
    subst e1 e4 e3
    exact .inr ⟨q, o, c, by rw [e2], h2, Nat.lt_of_lt_of_le h3 hg.size, fun j u hj => hg.cell (h4 j u hj) (fun e => hne (Option.some.inj e))⟩
theorem cat_other {w w' : World} {q o n c q' o' n' c' b b1 b2 : Nat} {x y p : Int} {M : List Seat} (h : CatIn w (.slice (some ⟨q, o, none⟩) n c) (.slice (some ⟨q', o', none⟩) n' c') (twoL b1 b2 x y p) M) (hg : w.grownBy w' (some b)) (h1 : q ≠ b) (h2 : q' ≠ b) (h3 : b1 ≠ b) (h4 : b2 ≠ b) :
    CatIn w' (.slice (some ⟨q, o, none⟩) n c) (.slice (some ⟨q', o', none⟩) n' c') (twoL b1 b2 x y p) M := by
  refine ⟨row_other h.off hg h1, fun z hz => ?_, h.code, row_other h.met hg h2, h.wf, h.lo, h.lm⟩
  obtain ⟨⟨k1, k2⟩, kf⟩ := h.ok z hz
  unfold twoL at hz
  simp only [List.mem_cons, List.not_mem_nil, or_false] at hz
  rcases hz with rfl | rfl
  · exact ⟨⟨row_other k1 hg h3, RowIn.nil _ _⟩, kf⟩
  · exact ⟨⟨row_other k1 hg h4, RowIn.nil _ _⟩, kf⟩
/-- A new row of requests. -/
theorem reqs_lit {e : TypeId} (w : World) (L : List Req) (cs : Array Value) (b : Nat) (hb : w.heap.size = b) (hcs : cs.toList = reqCells L) (n : Nat) (hn : L.length = n) : ReqsIn (w.alloc (.cells cs e)) (.slice (some ⟨b, 0, none⟩) n n) L := by
  subst hb; subst hn
  refine .inr ⟨_, _, _, rfl, Nat.le_refl _, by simp, fun j u hj => ?_⟩
  rw [Nat.zero_add, Lib.cell_of_heap (heap_alloc_new w _)]
  rw [← hcs] at hj
  simpa using hj
theorem CatIn.meet {w : World} {ov mv mv' : Value} {L : List Off} {M M' : List Seat} (h : CatIn w ov mv L M) (hm : RowIn Seat.cells w mv' M') (hwf : ∀ s ∈ M', s.wf) (lm : M'.length ≤ 1000000) : CatIn w ov mv' L M' := ⟨h.off, h.ok, h.code, hm, hwf, h.lo, lm⟩
/-- The catalog, new. -/
theorem cat_new (w : World) (x y p : Int) :
    CatIn (((w.alloc (.cells #[.int .i64 1] 3)).alloc (.cells #[.int .i64 2] 3)).alloc (.cells #[.string cA, .int .i64 x, .int .i64 p, .slice (some ⟨w.heap.size, 0, none⟩) 1 1, .slice none 0 0, .string cB, .int .i64 y, .int .i64 p, .slice (some ⟨w.heap.size + 1, 0, none⟩) 1 1, .slice none 0 0] 72)) (.slice (some ⟨w.heap.size + 1 + 1, 0, none⟩) 2 2) (.slice none 0 0) (twoL w.heap.size (w.heap.size + 1) x y p) [] ∧
    RowKit.Below w.heap.size w (((w.alloc (.cells #[.int .i64 1] 3)).alloc (.cells #[.int .i64 2] 3)).alloc (.cells #[.string cA, .int .i64 x, .int .i64 p, .slice (some ⟨w.heap.size, 0, none⟩) 1 1, .slice none 0 0, .string cB, .int .i64 y, .int .i64 p, .slice (some ⟨w.heap.size + 1, 0, none⟩) 1 1, .slice none 0 0] 72)) := by
  have h1 := rowIn_lit (enc := encI) (e := 3) w [1] #[.int .i64 1] w.heap.size rfl rfl 1 rfl
  have h2 := rowIn_lit (enc := encI) (e := 3) (w.alloc (.cells #[.int .i64 1] 3)) [2] #[.int .i64 2] (w.heap.size + 1) (by simp) rfl 1 rfl
  have hb2 := below_alloc1 (w.alloc (.cells #[.int .i64 1] 3)) (.cells #[.int .i64 2] 3)
  have hb3 := below_alloc1 ((w.alloc (.cells #[.int .i64 1] 3)).alloc (.cells #[.int .i64 2] 3)) (.cells #[.string cA, .int .i64 x, .int .i64 p, .slice (some ⟨w.heap.size, 0, none⟩) 1 1, .slice none 0 0, .string cB, .int .i64 y, .int .i64 p, .slice (some ⟨w.heap.size + 1, 0, none⟩) 1 1, .slice none 0 0] 72)
  refine ⟨⟨rowIn_lit (enc := Off.cells) (e := 72) _ (twoL w.heap.size (w.heap.size + 1) x y p) _ (w.heap.size + 1 + 1) (by simp) rfl 2 rfl, fun o ho => ?_, fun o ho => ?_, RowIn.nil _ _, fun _ h => (by cases h), by show 2 ≤ 1000000; omega, by simp⟩, below_next (below_next (below_alloc1 _ _) hb2) hb3⟩
  rotate_left
  · unfold twoL at ho
    simp only [List.mem_cons, List.not_mem_nil, or_false] at ho
    rcases ho with rfl | rfl
    · show ByteArray.size cA ≤ maxLen; decide
    · show ByteArray.size cB ≤ maxLen; decide
  unfold twoL at ho
  simp only [List.mem_cons, List.not_mem_nil, or_false] at ho
  rcases ho with rfl | rfl
  · exact ⟨⟨(h1.below hb2).below hb3, RowIn.nil _ _⟩, by show (1 : Nat) ≤ _; omega⟩
  · exact ⟨⟨h2.below hb3, RowIn.nil _ _⟩, by show (1 : Nat) ≤ _; omega⟩
set_option maxHeartbeats 4000000 in
set_option maxRecDepth 100000 in
theorem ex_r5 {s0 s1 s2 s4 s5 s6 s8 s9 s10 s11 s12 s13 s14 s15 s16 s17 s18 s19 s20 s21 s22 s23 s24 s25 s26 s27 s28 s29 s30 s31 : Value} (b3 b7 : Nat) (p1 p2 : Option Addr) (n1 n2 c1 c2 : Nat) (z1 z2 : Value) (ds : List Deferred) (W : World) (Q : Exit → Act → World → Prop) (h3 : W.heap[b3]? = some (.cells #[z1, z2] 31 (0, 0))) (h7 : W.heap[b7]? = some (.cells #[(.slice p1 n1 c1), (.slice p2 n2 c2)] 31 (0, 0))) (hne : b3 ≠ b7)
    (hQ : ∀ wx, wx.heap[b3]? = some (.cells #[(.slice p1 n1 c1), (.slice p2 n2 c2)] 31 (0, 0)) → W.grownBy wx (some b3) → Q .normal ⟨List.toArray (s4 :: s5 :: s6 :: .pointer (some ⟨b3, 0, none⟩) :: s4 :: s5 :: s6 :: .pointer (some ⟨b7, 0, none⟩) :: s8 :: s9 :: s10 :: s11 :: s12 :: s13 :: s14 :: s15 :: s16 :: s17 :: s18 :: s19 :: s20 :: s21 :: s22 :: s23 :: s24 :: s25 :: s26 :: s27 :: s4 :: s5 :: s6 :: .agg #[(.slice p1 n1 c1), (.slice p2 n2 c2)] :: []), ds⟩ wx) :
    (regionOf Tryz.f15 5).wp Tryz.prog Q ⟨List.toArray (s0 :: s1 :: s2 :: .pointer (some ⟨b3, 0, none⟩) :: s4 :: s5 :: s6 :: .pointer (some ⟨b7, 0, none⟩) :: s8 :: s9 :: s10 :: s11 :: s12 :: s13 :: s14 :: s15 :: s16 :: s17 :: s18 :: s19 :: s20 :: s21 :: s22 :: s23 :: s24 :: s25 :: s26 :: s27 :: s28 :: s29 :: s30 :: s31 :: []), ds⟩ W := by
  have HQ := Lib.hid hQ; clear hQ
  have hS0 : ∀ j, W.drew.cell? ⟨b7, j, none⟩ = (#[(.slice p1 n1 c1), (.slice p2 n2 c2)] : Array Value)[j]? := fun j => Lib.cell_of_heap (w := W.drew) h7 j
  have hc3 : ∀ j, W.drew.cell? ⟨b3, j, none⟩ = (#[z1, z2] : Array Value)[j]? := fun j => Lib.cell_of_heap (w := W.drew) h3 j
  have hf3 : ∀ j, W.drew.frozen? ⟨b3, j, none⟩ = false := fun j => Lib.frozen_of_heap (w := W.drew) h3 j
  have hg : W.grownBy ((W.drew.setCell ⟨b3, 0, none⟩ (.slice p1 n1 c1)).setCell ⟨b3, 1, none⟩ (.slice p2 n2 c2)) (some b3) := grows_trans (below_grows (Below.refl _ W).drew) (grows_trans (Only.setCell W.drew b3 0 (.slice p1 n1 c1) 0) (Only.setCell _ b3 1 (.slice p2 n2 c2) 0))
  have hS1 : ∀ j, ((W.drew.setCell ⟨b3, 0, none⟩ (.slice p1 n1 c1)).setCell ⟨b3, 1, none⟩ (.slice p2 n2 c2)).cell? ⟨b7, j, none⟩ = (#[(.slice p1 n1 c1), (.slice p2 n2 c2)] : Array Value)[j]? := fun j => Lib.cell_of_heap ((hg.block _ (lt_of_heap h7) (fun e => hne (Option.some.inj e).symm)).trans h7) j
  have HF : Hid (((W.drew.setCell ⟨b3, 0, none⟩ (.slice p1 n1 c1)).setCell ⟨b3, 1, none⟩ (.slice p2 n2 c2)).heap[b3]? = some (.cells #[(.slice p1 n1 c1), (.slice p2 n2 c2)] 31 (0, 0)) ∧ W.grownBy ((W.drew.setCell ⟨b3, 0, none⟩ (.slice p1 n1 c1)).setCell ⟨b3, 1, none⟩ (.slice p2 n2 c2)) (some b3)) := Lib.hid ⟨by
    have h3' : W.drew.heap[b3]? = some (.cells #[z1, z2] 31 (0, 0)) := h3
    simp [World.setCell, Array.getElem?_modify, h3'], hg⟩
  clear hg h3 h7
  conv => arg 2; whnf
  refine of_onlyN ?_ (fun _ _ h => h)
  refine wp_region_flow (S := fun w' => ∀ j, w'.cell? ⟨b7, j, none⟩ = (#[(.slice p1 n1 c1), (.slice p2 n2 c2)] : Array Value)[j]?) [(0, true), (1, true), (2, true), (3, true), (4, true), (5, true), (6, true), (7, false)] (by kernel_rfl) (by kernel_rfl) (by kernel_rfl) (by decide) hS0 ?_
  have hS := hS0
  generalize W.drew = Wd at hS0 hS1 hS hc3 hf3 HF ⊢
  refine flow_take ⟨some 28, _, _, _, _, _⟩ ?_ rfl (by rfl) ?_ ?_
  rotate_left 1
  · intro w hSw; (try dsimp only at hSw); go_simp; (try with_reducible rfl)
  (try simp only [Act.put, List.setIfInBounds_toArray, List.set_cons_zero, List.set_cons_succ])
  refine flow_take ⟨some 29, _, _, _, _, _⟩ ?_ rfl (by rfl) ?_ ?_
  rotate_left 1
  · intro w hSw; (try dsimp only at hSw); go_simp; (try with_reducible rfl)
  (try simp only [Act.put, List.setIfInBounds_toArray, List.set_cons_zero, List.set_cons_succ])
  refine flow_take ⟨some 30, _, _, _, _, _⟩ ?_ rfl (by rfl) ?_ ?_
  rotate_left 1
  · intro w hSw; (try dsimp only at hSw); go_simp; (try with_reducible rfl)
  (try simp only [Act.put, List.setIfInBounds_toArray, List.set_cons_zero, List.set_cons_succ])
  refine flow_take ⟨some 31, _, _, _, _, _⟩ ?_ rfl (by rfl) ?_ ?_
  rotate_left 1
  · intro w hSw; (try dsimp only at hSw); go_simp; (try with_reducible rfl)
  (try simp only [Act.put, List.setIfInBounds_toArray, List.set_cons_zero, List.set_cons_succ])
  refine flow_take ⟨some 0, _, _, _, _, _⟩ ?_ rfl (by rfl) ?_ ?_
  rotate_left 1
  · intro w hSw; (try dsimp only at hSw); go_simp; (try with_reducible rfl)
  (try simp only [Act.put, List.setIfInBounds_toArray, List.set_cons_zero])
  refine flow_take ⟨some 1, _, _, _, _, _⟩ ?_ rfl (by rfl) ?_ ?_
  rotate_left 1
  · intro w hSw; (try dsimp only at hSw); go_simp; (try with_reducible rfl)
  (try simp only [Act.put, List.setIfInBounds_toArray, List.set_cons_zero, List.set_cons_succ])
  refine flow_take ⟨some 2, _, _, _, _, _⟩ ?_ rfl (by rfl) ?_ ?_
  rotate_left 1
  · intro w hSw; (try dsimp only at hSw); go_simp; (try with_reducible rfl)
  (try simp only [Act.put, List.setIfInBounds_toArray, List.set_cons_zero, List.set_cons_succ])
  refine flow_store ⟨none, _, _, _, _, _⟩ ((Wd.setCell ⟨b3, 0, none⟩ (.slice p1 n1 c1)).setCell ⟨b3, 1, none⟩ (.slice p2 n2 c2)) rfl (by rfl) (by go_simp) hS1 ?_
  (try simp only [Act.put])
  simp only [wpFlow, OnlyN]
  exact HQ.out _ HF.out.1 HF.out.2
def exM : List Seat := [⟨5, cA⟩, ⟨5, cB⟩, ⟨6, cA⟩, ⟨6, cB⟩]
theorem exM_wf : ∀ s ∈ exM, s.wf := fun s hs => by
  unfold exM at hs
  simp only [List.mem_cons, List.not_mem_nil, or_false] at hs
  rcases hs with rfl | rfl | rfl | rfl <;> (unfold Seat.wf; decide)
def ExamplePost (w : World) (e : Ending) (w' : World) : Prop := ∃ ov mv lv dv b1 b2, e = .returned (.tuple #[ov, mv, lv, dv]) ∧ CatIn w' ov mv (twoL b1 b2 5 5 1) exM ∧ ReqsIn w' lv (twoR 5 6 0) ∧ DealIn w' dv (dl0 5 6 0) ∧ RowKit.Below w.heap.size w w'
set_option maxHeartbeats 4000000 in
set_option maxRecDepth 100000 in
theorem example_any (w : World) : Calls Tryz.prog 15 #[] w (ExamplePost w) := by
  have hb0 := below_alloc1 w (.cells #[.slice none 0 0, .slice none 0 0] 31)
  have hx0 := heap_alloc_new w (.cells #[.slice none 0 0, .slice none 0 0] 31)
  go_enter Tryz.func15, Tryz.ntmps15
  go_upto_region 1 with fail
  generalize w.alloc _ = w1 at hb0 hx0 ⊢
  obtain ⟨hL, hb⟩ := cat_new w1 5 5 1
  have lt1 := lt_of_heap hx0
  have hx1 := (hb.block _ lt1).trans hx0
  replace hb0 := below_next hb0 hb
  go_upto_region 2 with fail
  generalize World.alloc _ _ = w2 at hb hL hb0 hx1 ⊢
  have s1 := hb.size
  clear hb hx0
  have hM := rowIn_lit (enc := Seat.cells) (e := 38) w2 exM #[.int .i64 5, .string cA, .int .i64 5, .string cB, .int .i64 6, .string cA, .int .i64 6, .string cB] w2.heap.size rfl rfl 4 rfl
  have hb := below_alloc1 w2 (.cells #[.int .i64 5, .string cA, .int .i64 5, .string cB, .int .i64 6, .string cA, .int .i64 6, .string cB] 38)
  have lt2 := lt_of_heap hx1
  have hx2 := (hb.block _ lt2).trans hx1
  replace hL := (hL.below hb).meet hM exM_wf (by decide)
  replace hb0 := below_next hb0 hb
  go_upto_region 3 with fail
  generalize w2.alloc _ = w3 at hM hb hL hb0 hx2 ⊢
  have s2 := hb.size
  clear hM hb hx1 lt2
  have hR := reqs_lit (e := 41) w3 (twoR 5 6 0) #[.int .i64 1, .int .i64 1, .bool false, .int .i64 5, .int .i64 0, .string cB, .string cA, .int .i64 0, .int .i64 0, .int .i64 1, .int .i64 2, .bool false, .int .i64 6, .int .i64 0, .string cA, .string cB, .int .i64 0, .int .i64 0] w3.heap.size rfl rfl 2 rfl
  have hb := below_alloc1 w3 (.cells #[.int .i64 1, .int .i64 1, .bool false, .int .i64 5, .int .i64 0, .string cB, .string cA, .int .i64 0, .int .i64 0, .int .i64 1, .int .i64 2, .bool false, .int .i64 6, .int .i64 0, .string cA, .string cB, .int .i64 0, .int .i64 0] 41)
  have lt3 := lt_of_heap hx2
  have hx3 := (hb.block _ lt3).trans hx2
  replace hL := hL.below hb
  replace hb0 := below_next hb0 hb
  go_upto_region 4 with fail
  generalize w3.alloc _ = w4 at hb hR hL hb0 hx3 ⊢
  have s3 := hb.size
  clear hb hx2 lt3
  have hS := rowIn_lit (enc := Seat.cells) (e := 38) w4 [⟨5, cA⟩, ⟨6, cB⟩] #[.int .i64 5, .string cA, .int .i64 6, .string cB] w4.heap.size rfl rfl 2 rfl
  have hb := below_alloc1 w4 (.cells #[.int .i64 5, .string cA, .int .i64 6, .string cB] 38)
  have hW := rowIn_lit (enc := Seat.cells) (e := 38) (w4.alloc (.cells #[.int .i64 5, .string cA, .int .i64 6, .string cB] 38)) [⟨5, cB⟩, ⟨6, cA⟩] #[.int .i64 5, .string cB, .int .i64 6, .string cA] (w4.heap.size + 1) (by simp) rfl 2 rfl
  have hb2 := below_alloc1 (w4.alloc (.cells #[.int .i64 5, .string cA, .int .i64 6, .string cB] 38)) (.cells #[.int .i64 5, .string cB, .int .i64 6, .string cA] 38)
  have hb3 := below_alloc1 ((w4.alloc (.cells #[.int .i64 5, .string cA, .int .i64 6, .string cB] 38)).alloc (.cells #[.int .i64 5, .string cB, .int .i64 6, .string cA] 38)) (.cells #[.slice (some ⟨w4.heap.size, 0, none⟩) 2 2, .slice (some ⟨w4.heap.size + 1, 0, none⟩) 2 2] 31)
  have hx7 := heap_alloc_new ((w4.alloc (.cells #[.int .i64 5, .string cA, .int .i64 6, .string cB] 38)).alloc (.cells #[.int .i64 5, .string cB, .int .i64 6, .string cA] 38)) (.cells #[.slice (some ⟨w4.heap.size, 0, none⟩) 2 2, .slice (some ⟨w4.heap.size + 1, 0, none⟩) 2 2] 31)
  rw [show ((w4.alloc (.cells #[.int .i64 5, .string cA, .int .i64 6, .string cB] 38)).alloc (.cells #[.int .i64 5, .string cB, .int .i64 6, .string cA] 38)).heap.size = w4.heap.size + 1 + 1 by simp] at hx7
  have hD := DealIn.mk' (d := dl0 5 6 0) ((hS.below hb2).below hb3) (hW.below hb3) (by decide) (by decide)
  have hbb := below_next (below_next hb hb2) hb3
  have hx8 := (hbb.block _ (lt_of_heap hx3)).trans hx3
  have lt4 := lt_of_heap hx3
  have HL := Lib.hid (hL.below hbb)
  have HR := Lib.hid (hR.below hbb)
  have HB := Lib.hid (below_next hb0 hbb)
  have HD := Lib.hid hD
  clear hb hb2 hb3 hL hR hb0 hD hS hW hbb hx3
  go_upto_region 5 with fail
  generalize World.alloc _ _ = w5 at hx7 hx8 HL HR HB HD ⊢
  refine ex_r5 w.heap.size (w4.heap.size + 1 + 1) _ _ _ _ _ _ _ _ _ w5 _ hx8 hx7 (by omega) ?_
  intro wx hxw hgr
  go_wp2_with fail
  refine bodyPost_ret (deal_results4 Tryz.results15 _ wx w.heap.size #[.slice (some ⟨w4.heap.size, 0, none⟩) 2 2, .slice (some ⟨w4.heap.size + 1, 0, none⟩) 2 2] rfl rfl hxw) rfl ?_
  have hn : NoInt w5 w.heap.size := NoInt.deal hx8
  exact ⟨_, _, _, _, _, _, rfl, cat_other HL.out hgr (by omega) (by omega) (by omega) (by omega), reqs_other HR.out hgr (by omega), HD.out.grown hgr (fun q hq => by obtain rfl := Option.some.inj hq; exact hn), HB.out.grown hgr HB.out.size (fun q hq => by obtain rfl := Option.some.inj hq; exact Nat.le_refl _)⟩
end Go.Proofs.YtjcogpalmgcpbaaGreat
namespace Go.Proofs.YtjcogpalmgcpbaaGreat
open Go Go.Proofs Go.RowKit Go.Maps Go.Sort Go.Lib

theorem sw_deal_at {ops : Array Oper} {Q : Exit → Act → World → Prop} {S : World → Prop} {i : Nat} {σ : List (Nat × Bool)} {a : Act} {w : World} (oi : Oper) (sv wv : Value) (g : Nat) (hi : ops[i]? = some oi) (hw : Region.wanted oi (yielded ops a.tmps) = true)
    (p : Operand) (ho : oi.op = .load 31 p) (hp : a.eval p = .pointer (some ⟨g, 0, none⟩)) (hc : ∀ w, S w → w.rangeAt g 0 [sv, wv])
    (h : wpFlow Tryz.prog ops Q S σ (a.put oi.dst (.agg #[sv, wv])) w) : wpFlow Tryz.prog ops Q S ((i, true) :: σ) a w :=
  flow_take oi (.agg #[sv, wv]) hi hw (fun w hS => by
    have hl : (Instr.loadAt 31 (.pointer (some ⟨g, 0, none⟩))).run Tryz.prog w = .ok (.agg #[sv, wv]) w := run_loadAt_mid w g 0 31 [sv, wv] _ (hc w hS) Tryz.underlying31 rfl (by kernel_rfl)
    unfold execOp
    simp only [ho, hp, Sem.run_bind, Sem.run_pure, hl, Result.andThen_ok]) h
theorem box_at {W w : World} {b : Nat} {sv wv : Value} {t : TypeId} {fz : Nat × Nat} (h : W.heap[b]? = some (.cells #[sv, wv] t fz)) (hS : RowKit.Below W.heap.size W w) : w.rangeAt b 0 [sv, wv] := fun j u hj => by
  rw [Nat.zero_add, Lib.cell_of_heap ((hS.block _ (lt_of_heap h)).trans h)]
  simpa using hj
theorem is_again {w : World} {v u : Value} {l : List Nat} (hv : RowIn encN w v l) (hu : RowIn encN w u l) (hl : l.length ≤ 1000000) :
    Calls Tryz.prog 16 #[v, u] w fun e w' => e = .returned (.bool true) ∧ RowKit.Below w.heap.size w w' := by
  have := is29_any v u l l w hv hu hl hl
  rwa [decide_eq_true rfl] at this
theorem sw_same {w : World} {x y : Value} {d : Deal} (hx : DealIn w x d) (hy : DealIn w y d) :
    Calls Tryz.prog 13 #[x, y] w fun e w' => e = .returned (.bool true) ∧ RowKit.Below w.heap.size w w' := by
  have := refSame_any x y d d w hx hy
  rwa [sameD_refl] at this
theorem trade_to {w : World} {ov mv lv dv : Value} {L : List Off} {M : List Seat} {most : Int} {l : List Req} {d D' : Deal} (hC : CatIn w ov mv L M) (hl : ReqsIn w lv l) (ll : l.length ≤ 200) (hf : ∀ r ∈ l, r.fits) (hd : DealIn w dv d) (hwf : ∀ x ∈ d.seats, x.wf)
    (hT : ∀ T, Reach L M most l d T → circleP L M most l T = none → T = D') :
    Calls Tryz.prog 8 #[ov, mv, .int .i64 most, lv, dv] w fun e w' => ∃ v, e = .returned v ∧ DealIn w' v D' ∧ RowKit.Below w.heap.size w w' := by
  refine (trade_any ov mv lv L M most l d dv w hC hl ll hf hd hwf).mono ?_
  rintro _ w' ⟨T, p, c, p', c', rfl, h1, h2, h3, h4⟩
  obtain rfl := hT T h2 h3
  exact ⟨_, rfl, h1, h4⟩
theorem two_fits {a b t : Int} (ha0 : 1 ≤ a) (ha1 : a ≤ 1000) (hb0 : 1 ≤ b) (hb1 : b ≤ 1000) (ht0 : 0 ≤ t) (ht1 : t ≤ 1) : ∀ r ∈ twoR a b t, r.fits := fun r hr => by
  have hi : ∀ z : Int, 0 ≤ z → z ≤ 1000 → (Lit.int .i64 z).wf = true := fun z h0 h1 => by
    show (decide (IntKind.i64.min ≤ z) && decide (z ≤ IntKind.i64.max)) = true
    rw [Bool.and_eq_true, decide_eq_true_eq, decide_eq_true_eq]
    have e1 : IntKind.i64.min = -9223372036854775808 := by decide
    have e2 : IntKind.i64.max = 9223372036854775807 := by decide
    omega
  have c1 : ByteArray.size cA = 2 := by decide
  have c2 : ByteArray.size cB = 2 := by decide
  have hm : 2 ≤ maxLen := by unfold maxLen; omega
  unfold twoR at hr
  simp only [List.mem_cons, List.not_mem_nil, or_false] at hr
  rcases hr with rfl | rfl
  · exact ⟨⟨hi 1 (by omega) (by omega), hi 1 (by omega) (by omega), hi a (by omega) ha1, hi t ht0 (by omega), by show ByteArray.size cB ≤ maxLen; omega, by show ByteArray.size cA ≤ maxLen; omega, hi 0 (by omega) (by omega), hi 0 (by omega) (by omega)⟩, by show ByteArray.size cB ≤ 1000000; omega, by show ByteArray.size cA ≤ 1000000; omega⟩
  · exact ⟨⟨hi 1 (by omega) (by omega), hi 2 (by omega) (by omega), hi b (by omega) hb1, hi t ht0 (by omega), by show ByteArray.size cA ≤ maxLen; omega, by show ByteArray.size cB ≤ maxLen; omega, hi 0 (by omega) (by omega), hi 0 (by omega) (by omega)⟩, by show ByteArray.size cA ≤ 1000000; omega, by show ByteArray.size cB ≤ 1000000; omega⟩
def plR : List Req := [{ rqA 5 0 with give := ⟨#[]⟩ }, rqB 6 0]

set_option maxHeartbeats 4000000 in
set_option maxRecDepth 100000 in
theorem sn_r9 {s0 s10 s12 s15 s16 s17 s18 s19 s20 s21 s22 s23 s24 s25 s26 s27 s28 s29 s30 s31 s32 s33 s34 s35 s36 s37 s38 s39 s40 s41 s42 s43 s44 s45 s46 s47 s48 s49 s50 s51 s52 s53 s54 s55 s56 s57 s58 s59 s60 s61 s62 s63 s64 s65 s66 s67 s68 s69 s70 s71 s72 s73 s74 s75 s76 s77 s78 s79 s80 s81 s82 s83 s84 s85 s86 s87 s88 s89 s90 s91 s92 s93 s94 s95 s96 s97 s98 s99 : Value} (b4 b5 b8 : Nat) (ov mv lv pv cv s4v w4v s5v w5v s8v w8v : Value) (L : List Off) (M : List Seat) (l l2 : List Req) (d D : Deal) (W : World) (Q : Exit → Act → World → Prop) (h4 : W.heap[b4]? = some (.cells #[s4v, w4v] 31 (0, 0))) (h5 : W.heap[b5]? = some (.cells #[s5v, w5v] 31 (0, 0))) (h8 : W.heap[b8]? = some (.cells #[s8v, w8v] 31 (0, 0))) (hC : CatIn W ov mv L M) (hl : ReqsIn W lv l) (hp : ReqsIn W pv l2) (ll : l.length ≤ 200) (ll2 : l2.length ≤ 200) (hf : ∀ r ∈ l, r.fits) (hf2 : ∀ r ∈ l2, r.fits) (hd : DealIn W (.agg #[s4v, w4v]) d) (hwf : ∀ x ∈ d.seats, x.wf) (hd5 : DealIn W (.agg #[s5v, w5v]) D) (hd8 : DealIn W (.agg #[s8v, w8v]) D) (hT : ∀ T, Reach L M 60 l d T → circleP L M 60 l T = none → T = D) (hT2 : ∀ T, Reach L M 60 l2 d T → circleP L M 60 l2 T = none → T = d) (hc : RowIn encN W cv [0, 1])
    (hQ : ∀ (u60 u61 u62 u63 u64 u65 u66 u67 u68 u69 u70 u71 u72 u73 u74 u75 u76 u77 u78 u79 u80 u81 u82 u83 u84 u85 u86 u87 u88 u89 u90 u91 u92 u93 u94 u95 u96 u97 u98 u99 : Value) (wx : World), RowKit.Below W.heap.size W wx → Q .normal ⟨List.toArray (.bool true :: ov :: mv :: lv :: .pointer (some ⟨b4, 0, none⟩) :: .pointer (some ⟨b5, 0, none⟩) :: cv :: .bool true :: .pointer (some ⟨b8, 0, none⟩) :: .bool true :: s10 :: .bool false :: s12 :: .bool false :: pv :: s15 :: s16 :: s17 :: s18 :: s19 :: s20 :: s21 :: s22 :: s23 :: s24 :: s25 :: s26 :: s27 :: s28 :: s29 :: s30 :: s31 :: s32 :: s33 :: s34 :: s35 :: s36 :: s37 :: s38 :: s39 :: s40 :: s41 :: s42 :: s43 :: s44 :: s45 :: s46 :: s47 :: s48 :: s49 :: s50 :: s51 :: s52 :: s53 :: s54 :: s55 :: s56 :: s57 :: s58 :: s59 :: u60 :: u61 :: u62 :: u63 :: u64 :: u65 :: u66 :: u67 :: u68 :: u69 :: u70 :: u71 :: u72 :: u73 :: u74 :: u75 :: u76 :: u77 :: u78 :: u79 :: u80 :: u81 :: u82 :: u83 :: u84 :: u85 :: u86 :: u87 :: u88 :: u89 :: u90 :: u91 :: u92 :: u93 :: u94 :: u95 :: u96 :: u97 :: u98 :: u99 :: []), []⟩ wx) :
    (regionOf Tryz.f6 9).wp Tryz.prog Q ⟨List.toArray (s0 :: ov :: mv :: lv :: .pointer (some ⟨b4, 0, none⟩) :: .pointer (some ⟨b5, 0, none⟩) :: cv :: .bool true :: .pointer (some ⟨b8, 0, none⟩) :: .bool true :: s10 :: .bool false :: s12 :: .bool false :: pv :: s15 :: s16 :: s17 :: s18 :: s19 :: s20 :: s21 :: s22 :: s23 :: s24 :: s25 :: s26 :: s27 :: s28 :: s29 :: s30 :: s31 :: s32 :: s33 :: s34 :: s35 :: s36 :: s37 :: s38 :: s39 :: s40 :: s41 :: s42 :: s43 :: s44 :: s45 :: s46 :: s47 :: s48 :: s49 :: s50 :: s51 :: s52 :: s53 :: s54 :: s55 :: s56 :: s57 :: s58 :: s59 :: s60 :: s61 :: s62 :: s63 :: s64 :: s65 :: s66 :: s67 :: s68 :: s69 :: s70 :: s71 :: s72 :: s73 :: s74 :: s75 :: s76 :: s77 :: s78 :: s79 :: s80 :: s81 :: s82 :: s83 :: s84 :: s85 :: s86 :: s87 :: s88 :: s89 :: s90 :: s91 :: s92 :: s93 :: s94 :: s95 :: s96 :: s97 :: s98 :: s99 :: []), []⟩ W := by
  refine of_onlyN (K := Q .normal) ?_ (fun _ _ h => h)
  generalize Q .normal = K at hQ ⊢
  have HQ := Lib.hid hQ; clear hQ
  conv => arg 2; whnf
  have HC := Lib.hid hC
  have HL := Lib.hid hl
  have HP := Lib.hid hp
  have HF := Lib.hid hf
  have HF2 := Lib.hid hf2
  have HD := Lib.hid hd
  have HWF := Lib.hid hwf
  have HD5 := Lib.hid hd5
  have HD8 := Lib.hid hd8
  have HT := Lib.hid hT
  have HT2 := Lib.hid hT2
  have HCV := Lib.hid hc
  clear hC hl hp hf hf2 hd hwf hd5 hd8 hT hT2 hc
  have hS0 : RowKit.Below W.heap.size W W.drew := (Below.refl _ _).drew
  refine of_onlyN ?_ (fun _ _ h => h)
  refine wp_region_flow (S := fun w' => RowKit.Below W.heap.size W w') [(0, true), (1, true), (2, true), (3, false), (4, false), (5, true), (6, true), (7, true), (8, true), (9, true), (10, true), (11, true), (12, false), (13, true), (14, true), (15, true), (16, true), (17, true), (18, true), (19, true), (20, true), (21, true), (22, true), (23, true), (24, true), (25, true), (26, true), (28, true), (27, false), (29, false), (30, true), (31, true), (32, true), (33, true), (34, true), (35, true), (37, true), (36, false), (38, false), (39, true), (40, true)] (by kernel_rfl) (by kernel_rfl) (by kernel_rfl) (by decide) (hS0) ?_
  have hS := hS0
  refine flow_take ⟨some 60, _, _, _, _, _⟩ ?_ rfl (by rfl) ?_ ?_
  rotate_left 1
  · intro w hSw; (try dsimp only at hSw); go_simp; (try with_reducible rfl)
  simp only [Act.put, List.setIfInBounds_toArray, List.set_cons_zero, List.set_cons_succ]
  refine flow_take ⟨some 61, _, _, _, _, _⟩ ?_ rfl (by rfl) ?_ ?_
  rotate_left 1
  · intro w hSw; (try dsimp only at hSw); go_simp; (try with_reducible rfl)
  simp only [Act.put, List.setIfInBounds_toArray, List.set_cons_zero, List.set_cons_succ]
  refine flow_take ⟨some 62, _, _, _, _, _⟩ ?_ rfl (by rfl) ?_ ?_
  rotate_left 1
  · intro w hSw; (try dsimp only at hSw); go_simp; (try with_reducible rfl)
  simp only [Act.put, List.setIfInBounds_toArray, List.set_cons_zero, List.set_cons_succ]
  refine flow_run ⟨some 63, _, _, _, _, _⟩ (.slice (some ⟨W.drew.heap.size, 0, none⟩) 2 2) (W.drew.alloc (.cells #[.int .i64 0, .int .i64 1] 3)) rfl (by rfl) (by go_simp) (below_next hS (below_alloc1 _ _)) ?_; have hrow := rowIn_lit (enc := encN) (e := 3) W.drew [0, 1] #[.int .i64 0, .int .i64 1] W.drew.heap.size rfl rfl 2 rfl; replace hS : RowKit.Below W.heap.size W (W.drew.alloc (.cells #[.int .i64 0, .int .i64 1] 3)) := below_next hS (below_alloc1 _ _)
  simp only [Act.put, List.setIfInBounds_toArray, List.set_cons_zero, List.set_cons_succ]
  refine flow_call ⟨some 64, _, _, _, _, _⟩ rfl (by rfl) 16 _ _ (by rfl) _ (by rfl) Tryz.call16 (is_again (HCV.out.below hS) hrow (by decide)) ?_; rintro x wn ⟨rfl, hb⟩; replace hS := below_next hS hb; refine ⟨_, rfl, hS, ?_⟩; (try clear hb)
  simp only [Act.put, List.setIfInBounds_toArray, List.set_cons_zero, List.set_cons_succ]
  refine flow_take ⟨some 65, _, _, _, _, _⟩ ?_ rfl (by rfl) ?_ ?_
  rotate_left 1
  · intro w hSw; (try dsimp only at hSw); go_simp; (try with_reducible rfl)
  simp only [Act.put, List.setIfInBounds_toArray, List.set_cons_zero, List.set_cons_succ]
  refine flow_take ⟨some 66, _, _, _, _, _⟩ ?_ rfl (by rfl) ?_ ?_
  rotate_left 1
  · intro w hSw; (try dsimp only at hSw); go_simp; (try with_reducible rfl)
  simp only [Act.put, List.setIfInBounds_toArray, List.set_cons_zero, List.set_cons_succ]
  refine flow_take ⟨some 67, _, _, _, _, _⟩ ?_ rfl (by rfl) ?_ ?_
  rotate_left 1
  · intro w hSw; (try dsimp only at hSw); go_simp; (try with_reducible rfl)
  simp only [Act.put, List.setIfInBounds_toArray, List.set_cons_zero, List.set_cons_succ]
  refine flow_take ⟨some 68, _, _, _, _, _⟩ ?_ rfl (by rfl) ?_ ?_
  rotate_left 1
  · intro w hSw; (try dsimp only at hSw); go_simp; (try with_reducible rfl)
  simp only [Act.put, List.setIfInBounds_toArray, List.set_cons_zero, List.set_cons_succ]
  refine flow_take ⟨some 69, _, _, _, _, _⟩ ?_ rfl (by rfl) ?_ ?_
  rotate_left 1
  · intro w hSw; (try dsimp only at hSw); go_simp; (try with_reducible rfl)
  simp only [Act.put, List.setIfInBounds_toArray, List.set_cons_zero, List.set_cons_succ]
  refine sw_deal_at ⟨some 70, _, _, _, _, _⟩ _ _ b8 rfl (by rfl) (.tmp 8) (by rfl) (by rfl) (fun w hS => box_at h8 hS) ?_
  (try simp only [Act.put, List.setIfInBounds_toArray, List.set_cons_zero, List.set_cons_succ])
  refine sw_deal_at ⟨some 71, _, _, _, _, _⟩ _ _ b5 rfl (by rfl) (.tmp 5) (by rfl) (by rfl) (fun w hS => box_at h5 hS) ?_
  (try simp only [Act.put, List.setIfInBounds_toArray, List.set_cons_zero, List.set_cons_succ])
  (first | (refine flow_call ⟨some 72, _, _, _, _, _⟩ rfl (by rfl) 13 _ _ (by rfl) _ (by rfl) Tryz.call13 (sw_same (HD8.out.below hS) (HD5.out.below hS)) ?_; rintro x wn ⟨rfl, hb⟩; replace hS := below_next hS hb; refine ⟨_, rfl, hS, ?_⟩; (try clear hb)) | (refine flow_call ⟨some 72, _, _, _, _, _⟩ rfl (by rfl) 13 _ _ (by rfl) _ (by rfl) Tryz.call13 (sw_same hv (HD5.out.below hS)) ?_; rintro x wn ⟨rfl, hb⟩; replace hS := below_next hS hb; refine ⟨_, rfl, hS, ?_⟩; (try clear hb)) | (refine flow_call ⟨some 72, _, _, _, _, _⟩ rfl (by rfl) 13 _ _ (by rfl) _ (by rfl) Tryz.call13 (sw_same hv (HD.out.below hS)) ?_; rintro x wn ⟨rfl, hb⟩; replace hS := below_next hS hb; refine ⟨_, rfl, hS, ?_⟩; (try clear hb)))
  simp only [Act.put, List.setIfInBounds_toArray, List.set_cons_zero, List.set_cons_succ]
  refine flow_take ⟨some 73, _, _, _, _, _⟩ ?_ rfl (by rfl) ?_ ?_
  rotate_left 1
  · intro w hSw; (try dsimp only at hSw); go_simp; (try with_reducible rfl)
  simp only [Act.put, List.setIfInBounds_toArray, List.set_cons_zero, List.set_cons_succ]
  refine flow_take ⟨some 74, _, _, _, _, _⟩ ?_ rfl (by rfl) ?_ ?_
  rotate_left 1
  · intro w hSw; (try dsimp only at hSw); go_simp; (try with_reducible rfl)
  simp only [Act.put, List.setIfInBounds_toArray, List.set_cons_zero, List.set_cons_succ]
  refine flow_take ⟨some 75, _, _, _, _, _⟩ ?_ rfl (by rfl) ?_ ?_
  rotate_left 1
  · intro w hSw; (try dsimp only at hSw); go_simp; (try with_reducible rfl)
  simp only [Act.put, List.setIfInBounds_toArray, List.set_cons_zero, List.set_cons_succ]
  refine flow_take ⟨some 76, _, _, _, _, _⟩ ?_ rfl (by rfl) ?_ ?_
  rotate_left 1
  · intro w hSw; (try dsimp only at hSw); go_simp; (try with_reducible rfl)
  simp only [Act.put, List.setIfInBounds_toArray, List.set_cons_zero, List.set_cons_succ]
  refine flow_take ⟨some 77, _, _, _, _, _⟩ ?_ rfl (by rfl) ?_ ?_
  rotate_left 1
  · intro w hSw; (try dsimp only at hSw); go_simp; (try with_reducible rfl)
  simp only [Act.put, List.setIfInBounds_toArray, List.set_cons_zero, List.set_cons_succ]
  refine flow_take ⟨some 78, _, _, _, _, _⟩ ?_ rfl (by rfl) ?_ ?_
  rotate_left 1
  · intro w hSw; (try dsimp only at hSw); go_simp; (try with_reducible rfl)
  simp only [Act.put, List.setIfInBounds_toArray, List.set_cons_zero, List.set_cons_succ]
  refine flow_take ⟨some 79, _, _, _, _, _⟩ ?_ rfl (by rfl) ?_ ?_
  rotate_left 1
  · intro w hSw; (try dsimp only at hSw); go_simp; (try with_reducible rfl)
  simp only [Act.put, List.setIfInBounds_toArray, List.set_cons_zero, List.set_cons_succ]
  refine flow_take ⟨some 80, _, _, _, _, _⟩ ?_ rfl (by rfl) ?_ ?_
  rotate_left 1
  · intro w hSw; (try dsimp only at hSw); go_simp; (try with_reducible rfl)
  simp only [Act.put, List.setIfInBounds_toArray, List.set_cons_zero, List.set_cons_succ]
  refine flow_take ⟨some 81, _, _, _, _, _⟩ ?_ rfl (by rfl) ?_ ?_
  rotate_left 1
  · intro w hSw; (try dsimp only at hSw); go_simp; (try with_reducible rfl)
  simp only [Act.put, List.setIfInBounds_toArray, List.set_cons_zero, List.set_cons_succ]
  refine flow_take ⟨some 82, _, _, _, _, _⟩ ?_ rfl (by rfl) ?_ ?_
  rotate_left 1
  · intro w hSw; (try dsimp only at hSw); go_simp; (try with_reducible rfl)
  simp only [Act.put, List.setIfInBounds_toArray, List.set_cons_zero, List.set_cons_succ]
  refine flow_take ⟨some 83, _, _, _, _, _⟩ ?_ rfl (by rfl) ?_ ?_
  rotate_left 1
  · intro w hSw; (try dsimp only at hSw); go_simp; (try with_reducible rfl)
  simp only [Act.put, List.setIfInBounds_toArray, List.set_cons_zero, List.set_cons_succ]
  refine flow_take ⟨some 84, _, _, _, _, _⟩ ?_ rfl (by rfl) ?_ ?_
  rotate_left 1
  · intro w hSw; (try dsimp only at hSw); go_simp; (try with_reducible rfl)
  simp only [Act.put, List.setIfInBounds_toArray, List.set_cons_zero, List.set_cons_succ]
  refine flow_take ⟨some 85, _, _, _, _, _⟩ ?_ rfl (by rfl) ?_ ?_
  rotate_left 1
  · intro w hSw; (try dsimp only at hSw); go_simp; (try with_reducible rfl)
  simp only [Act.put, List.setIfInBounds_toArray, List.set_cons_zero, List.set_cons_succ]
  refine sw_deal_at ⟨some 86, _, _, _, _, _⟩ _ _ b4 rfl (by rfl) (.tmp 4) (by rfl) (by rfl) (fun w hS => box_at h4 hS) ?_
  (try simp only [Act.put, List.setIfInBounds_toArray, List.set_cons_zero, List.set_cons_succ])
  refine sw_deal_at ⟨some 88, _, _, _, _, _⟩ _ _ b5 rfl (by rfl) (.tmp 5) (by rfl) (by rfl) (fun w hS => box_at h5 hS) ?_
  (try simp only [Act.put, List.setIfInBounds_toArray, List.set_cons_zero, List.set_cons_succ])
  (first | (refine flow_call ⟨some 87, _, _, _, _, _⟩ rfl (by rfl) 8 _ _ (by rfl) _ (by rfl) Tryz.call8 (trade_to (HC.out.below hS) (HL.out.below hS) ll HF.out (HD.out.below hS) HWF.out HT.out) ?_; rintro x wn ⟨v, rfl, hv, hb⟩; replace hS := below_next hS hb; refine ⟨_, rfl, hS, ?_⟩; (try clear hb)) | (refine flow_call ⟨some 87, _, _, _, _, _⟩ rfl (by rfl) 8 _ _ (by rfl) _ (by rfl) Tryz.call8 (trade_to (HC.out.below hS) (HP.out.below hS) ll2 HF2.out (HD.out.below hS) HWF.out HT2.out) ?_; rintro x wn ⟨v2, rfl, hv, hb⟩; replace hS := below_next hS hb; refine ⟨_, rfl, hS, ?_⟩; (try clear hb)))
  simp only [Act.put, List.setIfInBounds_toArray, List.set_cons_zero, List.set_cons_succ]
  (first | (refine flow_call ⟨some 89, _, _, _, _, _⟩ rfl (by rfl) 13 _ _ (by rfl) _ (by rfl) Tryz.call13 (sw_same (HD8.out.below hS) (HD5.out.below hS)) ?_; rintro x wn ⟨rfl, hb⟩; replace hS := below_next hS hb; refine ⟨_, rfl, hS, ?_⟩; (try clear hb)) | (refine flow_call ⟨some 89, _, _, _, _, _⟩ rfl (by rfl) 13 _ _ (by rfl) _ (by rfl) Tryz.call13 (sw_same hv (HD5.out.below hS)) ?_; rintro x wn ⟨rfl, hb⟩; replace hS := below_next hS hb; refine ⟨_, rfl, hS, ?_⟩; (try clear hb)) | (refine flow_call ⟨some 89, _, _, _, _, _⟩ rfl (by rfl) 13 _ _ (by rfl) _ (by rfl) Tryz.call13 (sw_same hv (HD.out.below hS)) ?_; rintro x wn ⟨rfl, hb⟩; replace hS := below_next hS hb; refine ⟨_, rfl, hS, ?_⟩; (try clear hb)))
  simp only [Act.put, List.setIfInBounds_toArray, List.set_cons_zero, List.set_cons_succ]
  refine flow_take ⟨some 90, _, _, _, _, _⟩ ?_ rfl (by rfl) ?_ ?_
  rotate_left 1
  · intro w hSw; (try dsimp only at hSw); go_simp; (try with_reducible rfl)
  simp only [Act.put, List.setIfInBounds_toArray, List.set_cons_zero, List.set_cons_succ]
  refine flow_take ⟨some 91, _, _, _, _, _⟩ ?_ rfl (by rfl) ?_ ?_
  rotate_left 1
  · intro w hSw; (try dsimp only at hSw); go_simp; (try with_reducible rfl)
  simp only [Act.put, List.setIfInBounds_toArray, List.set_cons_zero, List.set_cons_succ]
  refine flow_take ⟨some 92, _, _, _, _, _⟩ ?_ rfl (by rfl) ?_ ?_
  rotate_left 1
  · intro w hSw; (try dsimp only at hSw); go_simp; (try with_reducible rfl)
  simp only [Act.put, List.setIfInBounds_toArray, List.set_cons_zero, List.set_cons_succ]
  refine flow_take ⟨some 93, _, _, _, _, _⟩ ?_ rfl (by rfl) ?_ ?_
  rotate_left 1
  · intro w hSw; (try dsimp only at hSw); go_simp; (try with_reducible rfl)
  simp only [Act.put, List.setIfInBounds_toArray, List.set_cons_zero, List.set_cons_succ]
  refine flow_take ⟨some 94, _, _, _, _, _⟩ ?_ rfl (by rfl) ?_ ?_
  rotate_left 1
  · intro w hSw; (try dsimp only at hSw); go_simp; (try with_reducible rfl)
  simp only [Act.put, List.setIfInBounds_toArray, List.set_cons_zero, List.set_cons_succ]
  refine sw_deal_at ⟨some 95, _, _, _, _, _⟩ _ _ b4 rfl (by rfl) (.tmp 4) (by rfl) (by rfl) (fun w hS => box_at h4 hS) ?_
  (try simp only [Act.put, List.setIfInBounds_toArray, List.set_cons_zero, List.set_cons_succ])
  refine sw_deal_at ⟨some 97, _, _, _, _, _⟩ _ _ b4 rfl (by rfl) (.tmp 4) (by rfl) (by rfl) (fun w hS => box_at h4 hS) ?_
  (try simp only [Act.put, List.setIfInBounds_toArray, List.set_cons_zero, List.set_cons_succ])
  (first | (refine flow_call ⟨some 96, _, _, _, _, _⟩ rfl (by rfl) 8 _ _ (by rfl) _ (by rfl) Tryz.call8 (trade_to (HC.out.below hS) (HL.out.below hS) ll HF.out (HD.out.below hS) HWF.out HT.out) ?_; rintro x wn ⟨v, rfl, hv, hb⟩; replace hS := below_next hS hb; refine ⟨_, rfl, hS, ?_⟩; (try clear hb)) | (refine flow_call ⟨some 96, _, _, _, _, _⟩ rfl (by rfl) 8 _ _ (by rfl) _ (by rfl) Tryz.call8 (trade_to (HC.out.below hS) (HP.out.below hS) ll2 HF2.out (HD.out.below hS) HWF.out HT2.out) ?_; rintro x wn ⟨v2, rfl, hv, hb⟩; replace hS := below_next hS hb; refine ⟨_, rfl, hS, ?_⟩; (try clear hb)))
  simp only [Act.put, List.setIfInBounds_toArray, List.set_cons_zero, List.set_cons_succ]
  (first | (refine flow_call ⟨some 98, _, _, _, _, _⟩ rfl (by rfl) 13 _ _ (by rfl) _ (by rfl) Tryz.call13 (sw_same (HD8.out.below hS) (HD5.out.below hS)) ?_; rintro x wn ⟨rfl, hb⟩; replace hS := below_next hS hb; refine ⟨_, rfl, hS, ?_⟩; (try clear hb)) | (refine flow_call ⟨some 98, _, _, _, _, _⟩ rfl (by rfl) 13 _ _ (by rfl) _ (by rfl) Tryz.call13 (sw_same hv (HD5.out.below hS)) ?_; rintro x wn ⟨rfl, hb⟩; replace hS := below_next hS hb; refine ⟨_, rfl, hS, ?_⟩; (try clear hb)) | (refine flow_call ⟨some 98, _, _, _, _, _⟩ rfl (by rfl) 13 _ _ (by rfl) _ (by rfl) Tryz.call13 (sw_same hv (HD.out.below hS)) ?_; rintro x wn ⟨rfl, hb⟩; replace hS := below_next hS hb; refine ⟨_, rfl, hS, ?_⟩; (try clear hb)))
  simp only [Act.put, List.setIfInBounds_toArray, List.set_cons_zero, List.set_cons_succ]
  refine flow_take ⟨some 99, _, _, _, _, _⟩ ?_ rfl (by rfl) ?_ ?_
  rotate_left 1
  · intro w hSw; (try dsimp only at hSw); go_simp; (try with_reducible rfl)
  simp only [Act.put, List.setIfInBounds_toArray, List.set_cons_zero, List.set_cons_succ]
  refine flow_take ⟨some 0, _, _, _, _, _⟩ ?_ rfl (by rfl) ?_ ?_
  rotate_left 1
  · intro w hSw; (try dsimp only at hSw); go_simp; (try with_reducible rfl)
  simp only [Act.put, List.setIfInBounds_toArray, List.set_cons_zero]
  simp only [wpFlow, OnlyN]
  exact HQ.out _ _ _ _ _ _ _ _ _ _ _ _ _ _ _ _ _ _ _ _ _ _ _ _ _ _ _ _ _ _ _ _ _ _ _ _ _ _ _ _ _ hS

theorem turn_ok {w : World} {dv lv : Value} {l : List Req} {d D : Deal} {c : List Nat} {pv : Option Addr} {n cv : Nat} (hd : DealIn w dv d) (hl : ReqsIn w lv l) (ll : l.length ≤ 1000000) (hf : ∀ r ∈ l, r.fits) (hc : RowIn encN w (.slice pv n cv) c) (hn : n = c.length) (lc : c.length ≤ 1000000)
    (hB : isB l (canP (actS l) d l) c = true) (hT : turnP l d c = D) :
    Calls Tryz.prog 14 #[dv, lv, .slice pv n cv] w fun e w' => ∃ p e1 p' e2, e = .returned (.tuple #[.agg #[.slice p D.seats.length e1, .slice p' D.waits.length e2], .bool true]) ∧ DealIn w' (.agg #[.slice p D.seats.length e1, .slice p' D.waits.length e2]) D ∧ RowKit.Below w.heap.size w w' := by
  subst hn hT
  refine (swTurn_any dv lv l d c pv cv w hd hl ll hf hc lc).mono ?_
  rintro _ w' ⟨hb, ⟨_, p, e1, p', e2, rfl, h⟩ | ⟨h, _⟩⟩
  · exact ⟨p, e1, p', e2, rfl, h, hb⟩
  · rw [hB] at h; cases h
theorem turn_no {w : World} {dv lv : Value} {l : List Req} {d : Deal} {c : List Nat} {pv : Option Addr} {n cv : Nat} (hd : DealIn w dv d) (hl : ReqsIn w lv l) (ll : l.length ≤ 1000000) (hf : ∀ r ∈ l, r.fits) (hc : RowIn encN w (.slice pv n cv) c) (hn : n = c.length) (lc : c.length ≤ 1000000)
    (hB : isB l (canP (actS l) d l) c = false) :
    Calls Tryz.prog 14 #[dv, lv, .slice pv n cv] w fun e w' => e = .returned (.tuple #[.agg #[.slice none 0 0, .slice none 0 0], .bool false]) ∧ RowKit.Below w.heap.size w w' := by
  subst hn
  refine (swTurn_any dv lv l d c pv cv w hd hl ll hf hc lc).mono ?_
  rintro _ w' ⟨hb, ⟨h, _⟩ | ⟨_, rfl⟩⟩
  · rw [hB] at h; cases h
  · exact ⟨rfl, hb⟩
theorem circle_to {w : World} {ov mv lv dv : Value} {L : List Off} {M : List Seat} {most : Int} {l : List Req} {d : Deal} {c : List Nat} (hC : CatIn w ov mv L M) (hl : ReqsIn w lv l) (ll : l.length ≤ 200) (hf : ∀ r ∈ l, r.fits) (hd : DealIn w dv d) (hwf : ∀ x ∈ d.seats, x.wf) (hc : circleP L M most l d = some c) :
    Calls Tryz.prog 12 #[ov, mv, .int .i64 most, lv, dv] w fun e w' => ∃ v, e = .returned (.tuple #[v, .bool true]) ∧ RowIn encN w' v c ∧ RowKit.Below w.heap.size w w' := by
  refine (circle_any ov mv lv L M most l d dv w hC hl ll hf hd hwf).mono ?_
  rintro _ w' ⟨hb, ⟨h, _⟩ | ⟨c', pv, cv, h, rfl, hr⟩⟩
  · rw [hc] at h; cases h
  · rw [hc] at h
    obtain rfl := Option.some.inj h
    exact ⟨_, rfl, hr, hb⟩
theorem sw_own_empty (w : World) (base b : Nat) (h : w.heap.size = b) (hb : base ≤ b) : (w.alloc (.cells #[] 41)).ownsRow base 41 9 (.slice (some ⟨b, 0, none⟩) 0 0) 0 (reqCells []) := by
  subst h; exact World.ownsRow_made w #[] 0 hb (Nat.zero_le _) rfl
theorem own_two {w : World} {base : Nat} {t : TypeId} {v : Value} {l : List Req} (hl : l.length = 2) (h : w.ownsRow base t 9 v ([] ++ l).length (reqCells ([] ++ l))) :
    ∃ g cap cur, v = .slice (some ⟨g, 0, none⟩) 2 cap ∧ 2 ≤ cap ∧ w.heap[g]? = some (.cells cur t (0, 0)) ∧ base ≤ g ∧ cur.toList.take 18 = reqCells l ∧ 18 ≤ cur.size := by
  rw [List.nil_append, hl] at h
  rcases h.2 with ⟨_, h0⟩ | ⟨g, cap, cur, rfl, h1, hg, h2, _, h4, h5⟩
  · cases h0
  · exact ⟨g, cap, cur, rfl, h2, hg, h1, h5, by omega⟩
theorem plain_row {w : World} {g cap : Nat} {cur : Array Value} {t : TypeId} (hg : w.heap[g]? = some (.cells cur t (0, 0))) (hc : 2 ≤ cap) (h5 : cur.toList.take 18 = reqCells (twoR 5 6 0)) : ReqsIn (w.setCell ⟨g, 6, none⟩ (.string ⟨#[]⟩)) (.slice (some ⟨g, 0, none⟩) 2 cap) plR := by
  refine .inr ⟨g, 0, cap, rfl, hc, by rw [World.size_setCell]; exact lt_of_heap hg, fun j u hj => ?_⟩
  have hh : (w.setCell ⟨g, 6, none⟩ (.string ⟨#[]⟩)).heap[g]? = some (.cells (cur.setIfInBounds 6 (.string ⟨#[]⟩)) t (0, 0)) := by
    simp [World.setCell, Array.getElem?_modify, hg]
  rw [Nat.zero_add, Lib.cell_of_heap hh]
  have e : reqCells plR = (reqCells (twoR 5 6 0)).set 6 (.string ⟨#[]⟩) := rfl
  rw [e, ← h5] at hj
  rw [← Array.getElem?_toList, Array.toList_setIfInBounds]
  have hlt : j < 18 := by
    have := (List.getElem?_eq_some_iff.1 hj).1
    rw [List.length_set, List.length_take] at this
    omega
  rw [← List.take_set, List.getElem?_take, if_pos hlt] at hj
  exact hj
/-! ### the example, in plain words -/
theorem ex_ok (b1 b2 : Nat) : OkS (twoL b1 b2 5 5 1) exM 60 (dl1 5 6 0).seats :=
  (base_ok (n := 0) rfl (by decide) (by decide) (by decide) (by decide) rfl (by decide) (by decide) (by decide) (by decide) (by decide) (by decide) (by decide) (by simp [exM]) (by simp [exM]) (by simp [exM]) (by simp [exM]) (fun i h => absurd h (Nat.not_lt_zero i))).2
theorem ex_circle (b1 b2 : Nat) : circleP (twoL b1 b2 5 5 1) exM 60 (twoR 5 6 0) (dl0 5 6 0) = some [0, 1] :=
  two_circle (by decide) (by decide) (by decide) (by decide) (by decide) (by decide) (by decide) (ex_ok b1 b2)
theorem ex_reach (b1 b2 : Nat) (T : Deal) (h : Reach (twoL b1 b2 5 5 1) exM 60 (twoR 5 6 0) (dl0 5 6 0) T) (hT : circleP (twoL b1 b2 5 5 1) exM 60 (twoR 5 6 0) T = none) : T = dl1 5 6 0 :=
  two_reach (by decide) (by decide) (by decide) (by decide) (by decide) (by decide) (by decide) (ex_ok b1 b2) h hT
theorem ex_plain (b1 b2 : Nat) (T : Deal) (h : Reach (twoL b1 b2 5 5 1) exM 60 plR (dl0 5 6 0) T) (_ : circleP (twoL b1 b2 5 5 1) exM 60 plR T = none) : T = dl0 5 6 0 := h.stop (plain_none rfl)
theorem ex_wf : ∀ x ∈ (dl0 5 6 0).seats, x.wf := fun x hx => by
  have : x ∈ exM := by
    simp only [dl0, oth, List.append_nil, List.mem_cons, List.not_mem_nil, or_false] at hx
    rcases hx with rfl | rfl <;> simp [exM]
  exact exM_wf x this
theorem ex_isB : isB (twoR 5 6 0) (canP (actS (twoR 5 6 0)) (dl0 5 6 0) (twoR 5 6 0)) [0, 1] = true := by
  rw [two_can (by decide) (by decide) (by decide) (by decide) (by decide) (by decide) (by decide)]
  exact two_isB (by decide)
theorem plain_fits : ∀ r ∈ plR, r.fits := fun r hr => by
  have h := two_fits (a := 5) (b := 6) (t := 0) (by decide) (by decide) (by decide) (by decide) (by decide) (by decide)
  unfold plR at hr
  simp only [List.mem_cons, List.not_mem_nil, or_false] at hr
  rcases hr with rfl | rfl
  · have h0 := h (rqA 5 0) (by simp [twoR])
    exact ⟨⟨h0.1.1, h0.1.2.1, h0.1.2.2.1, h0.1.2.2.2.1, h0.1.2.2.2.2.1, by show 0 ≤ maxLen; omega, h0.1.2.2.2.2.2.2.1, h0.1.2.2.2.2.2.2.2⟩, h0.2.1, by show 0 ≤ 1000000; omega⟩
  · exact h _ (by simp [twoR])
set_option maxHeartbeats 4000000 in
set_option maxRecDepth 100000 in
theorem sw_sanity_any (w : World) : Calls Tryz.prog 6 #[] w fun e w' => e = .returned (.bool true) ∧ RowKit.Below w.heap.size w w' := by
  go_enter Tryz.func6, Tryz.ntmps6
  go_wp2_with fail
  refine (example_any w).mono ?_
  rintro _ w1 ⟨ov, mv, lv, dv, b1, b2, rfl, hC, hR, hD, hb0⟩
  obtain ⟨ps, cs, pw, cw, rfl, -, -⟩ := hD.val
  obtain ⟨d, hd⟩ : ∃ d, dl0 5 6 0 = d := ⟨_, rfl⟩
  have HDQ := Lib.hid hd
  rw [hd] at hD ⊢
  clear hd
  have hb := below_alloc1 w1 (.cells #[.slice ps d.seats.length cs, .slice pw d.waits.length cw] 31)
  have hx4 := heap_alloc_new w1 (.cells #[.slice ps d.seats.length cs, .slice pw d.waits.length cw] 31)
  have HC := Lib.hid (hC.below hb)
  have HR := Lib.hid (hR.below hb)
  have HD := Lib.hid (hD.below hb)
  have HB := Lib.hid (below_next hb0 hb)
  clear hC hR hD hb0 hb
  go_upto_region 2 with fail
  obtain ⟨b4, hb4⟩ : ∃ b, w1.heap.size = b := ⟨_, rfl⟩
  rw [hb4] at hx4 ⊢
  generalize w1.alloc _ = w2 at HC HR HD HB hx4 ⊢
  clear hb4
  have hS := rowIn_lit (enc := Seat.cells) (e := 38) w2 [⟨5, cB⟩, ⟨6, cA⟩] #[.int .i64 5, .string cB, .int .i64 6, .string cA] w2.heap.size rfl rfl 2 rfl
  have hb := below_alloc1 w2 (.cells #[.int .i64 5, .string cB, .int .i64 6, .string cA] 38)
  have hb2 := below_alloc1 (w2.alloc (.cells #[.int .i64 5, .string cB, .int .i64 6, .string cA] 38)) (.cells #[.slice (some ⟨w2.heap.size, 0, none⟩) 2 2, .slice none 0 0] 31)
  have hx5 := heap_alloc_new (w2.alloc (.cells #[.int .i64 5, .string cB, .int .i64 6, .string cA] 38)) (.cells #[.slice (some ⟨w2.heap.size, 0, none⟩) 2 2, .slice none 0 0] 31)
  rw [show (w2.alloc (.cells #[.int .i64 5, .string cB, .int .i64 6, .string cA] 38)).heap.size = w2.heap.size + 1 by simp] at hx5
  have hD5 := DealIn.mk' (d := dl1 5 6 0) (hS.below hb2) (RowIn.nil _ _) (by decide) (by decide)
  have hbb := below_next hb hb2
  have HC2 := Lib.hid (HC.out.below hbb)
  have HR2 := Lib.hid (HR.out.below hbb)
  have HD2 := Lib.hid (HD.out.below hbb)
  have HB2 := Lib.hid (below_next HB.out hbb)
  have HD5 := Lib.hid hD5
  replace hx4 := (hbb.block _ (lt_of_heap hx4)).trans hx4
  clear hb hb2 hD5 hS hbb HC HR HD HB
  go_upto_region 3 with fail
  obtain ⟨b5, hb5⟩ : ∃ b, w2.heap.size + 1 = b := ⟨_, rfl⟩
  rw [hb5] at hx5 ⊢
  obtain ⟨p5, hp5⟩ : ∃ p : Option Addr, some ⟨w2.heap.size, 0, none⟩ = p := ⟨_, rfl⟩
  rw [hp5] at hx5 HC2 HR2 HD2 HB2 HD5 hx4 ⊢
  generalize World.alloc _ _ = w3 at HC2 HR2 HD2 HB2 HD5 hx4 hx5 ⊢
  clear hb5 hp5
  obtain ⟨D, hDe⟩ : ∃ D, dl1 5 6 0 = D := ⟨_, rfl⟩
  have HDE := Lib.hid hDe
  have HWF : Hid (∀ x ∈ d.seats, x.wf) := Lib.hid (by rw [← HDQ.out]; exact ex_wf)
  have HCI : Hid (circleP (twoL b1 b2 5 5 1) exM 60 (twoR 5 6 0) d = some [0, 1]) := Lib.hid (by rw [← HDQ.out]; exact ex_circle b1 b2)
  have HRE : Hid (∀ T, Reach (twoL b1 b2 5 5 1) exM 60 (twoR 5 6 0) d T → circleP (twoL b1 b2 5 5 1) exM 60 (twoR 5 6 0) T = none → T = D) := Lib.hid (by rw [← HDQ.out, ← HDE.out]; exact ex_reach b1 b2)
  have HPL : Hid (∀ T, Reach (twoL b1 b2 5 5 1) exM 60 plR d T → circleP (twoL b1 b2 5 5 1) exM 60 plR T = none → T = d) := Lib.hid (by rw [← HDQ.out]; exact ex_plain b1 b2)
  have HIB : Hid (isB (twoR 5 6 0) (canP (actS (twoR 5 6 0)) d (twoR 5 6 0)) [0, 1] = true) := Lib.hid (by rw [← HDQ.out]; exact ex_isB)
  have HTU : Hid (turnP (twoR 5 6 0) d [0, 1] = D) := Lib.hid (by rw [← HDQ.out, ← HDE.out]; exact two_turn (by decide))
  have HFI : Hid (∀ r ∈ twoR 5 6 0, r.fits) := Lib.hid (two_fits (by decide) (by decide) (by decide) (by decide) (by decide) (by decide))
  rw [hDe] at HD5
  clear hDe HDQ HDE
  obtain ⟨LC, hLC⟩ : ∃ L, twoL b1 b2 5 5 1 = L := ⟨_, rfl⟩
  obtain ⟨l, hl⟩ : ∃ l, twoR 5 6 0 = l := ⟨_, rfl⟩
  have HLE : Hid (l.length = 2) := Lib.hid (by rw [← hl]; rfl)
  have HN1 : Hid (isB l (canP (actS l) d l) [1, 0] = false) := Lib.hid (by rw [← hl]; exact two_back _)
  have HN2 : Hid (isB l (canP (actS l) d l) [0] = false) := Lib.hid (two_alone _ _)
  have HLQ := Lib.hid hl
  rw [hLC, hl] at HCI HRE
  rw [hLC] at HPL HC2
  rw [hl] at HIB HTU HFI HR2
  clear hLC hl
  have hc4 : ∀ j, w3.cell? ⟨b4, j, none⟩ = (#[.slice ps d.seats.length cs, .slice pw d.waits.length cw] : Array Value)[j]? := fun j => Lib.cell_of_heap hx4 j
  go_wp2_with fail
  refine (circle_to HC2.out HR2.out (by have := HLE.out; omega) HFI.out HD2.out HWF.out HCI.out).mono ?_
  rintro _ w4 ⟨cv, rfl, hrow, hb⟩
  have HCV := Lib.hid hrow
  have hx4' := (hb.block _ (lt_of_heap hx4)).trans hx4
  have hx5' := (hb.block _ (lt_of_heap hx5)).trans hx5
  have HC4 := Lib.hid (HC2.out.below hb)
  have HR4 := Lib.hid (HR2.out.below hb)
  have HD4 := Lib.hid (HD2.out.below hb)
  have HD54 := Lib.hid (HD5.out.below hb)
  have HB4 := Lib.hid (below_next HB2.out hb)
  clear hc4 hb hrow hx4 hx5 HC2 HR2 HD2 HD5 HB2
  go_upto_region 4 with fail
  have hr4 := rowIn_lit (enc := encN) (e := 3) w4 [0, 1] #[.int .i64 0, .int .i64 1] w4.heap.size rfl rfl 2 rfl
  have hb := below_alloc1 w4 (.cells #[.int .i64 0, .int .i64 1] 3)
  have hc4 : ∀ j, w4.cell? ⟨b4, j, none⟩ = (#[.slice ps d.seats.length cs, .slice pw d.waits.length cw] : Array Value)[j]? := fun j => Lib.cell_of_heap hx4' j
  go_wp2_with fail
  refine (turn_ok (HD4.out.below hb) (HR4.out.below hb) (by have := HLE.out; omega) HFI.out hr4 rfl (by decide) HIB.out HTU.out).mono ?_
  rintro _ w5 ⟨p8, e8, q8, f8, rfl, hd8, hb1⟩
  replace hb := below_next hb hb1
  have hb2 := below_alloc1 w5 (.cells #[.slice p8 D.seats.length e8, .slice q8 D.waits.length f8] 31)
  have hx8 := heap_alloc_new w5 (.cells #[.slice p8 D.seats.length e8, .slice q8 D.waits.length f8] 31)
  have HD8 := Lib.hid (hd8.below hb2)
  replace hb := below_next hb hb2
  replace hx4' := (hb.block _ (lt_of_heap hx4')).trans hx4'
  replace hx5' := (hb.block _ (lt_of_heap hx5')).trans hx5'
  have HX := Lib.hid hb
  clear hc4 hb1 hb2 hd8 hr4 hb
  go_upto_region 5 with fail
  obtain ⟨b8, hb8⟩ : ∃ b, w5.heap.size = b := ⟨_, rfl⟩
  rw [hb8] at hx8 ⊢
  generalize w5.alloc _ = w6 at HX hx4' hx5' hx8 HD8 ⊢
  clear hb8
  have hr4 := rowIn_lit (enc := encN) (e := 3) w6 [1, 0] #[.int .i64 1, .int .i64 0] w6.heap.size rfl rfl 2 rfl
  have hb := below_alloc1 w6 (.cells #[.int .i64 1, .int .i64 0] 3)
  have hc4 : ∀ j, w6.cell? ⟨b4, j, none⟩ = (#[.slice ps d.seats.length cs, .slice pw d.waits.length cw] : Array Value)[j]? := fun j => Lib.cell_of_heap hx4' j
  go_wp2_with fail
  refine (turn_no (HD4.out.below (HX.out.trans (hb.mono HX.out.size))) (HR4.out.below (HX.out.trans (hb.mono HX.out.size))) (by have := HLE.out; omega) HFI.out hr4 rfl (by decide) HN1.out).mono ?_
  rintro _ w7 ⟨rfl, hb1⟩
  replace hb := below_next hb hb1
  have hb2 := below_alloc1 w7 (.cells #[.slice none 0 0, .slice none 0 0] 31)
  replace hb := below_next hb hb2
  have HX7 := Lib.hid hb
  clear hb1 hb2 hr4 hb hc4
  go_upto_region 6 with fail
  generalize w7.alloc _ = w8 at HX7 ⊢
  have hr4 := rowIn_lit (enc := encN) (e := 3) w8 [0] #[.int .i64 0] w8.heap.size rfl rfl 1 rfl
  have hb := below_alloc1 w8 (.cells #[.int .i64 0] 3)
  have hc4 : ∀ j, w8.cell? ⟨b4, j, none⟩ = (#[.slice ps d.seats.length cs, .slice pw d.waits.length cw] : Array Value)[j]? := fun j => Lib.cell_of_heap ((HX7.out.block _ (lt_of_heap hx4')).trans hx4') j
  go_wp2_with fail
  have hb48 := HX.out.trans ((HX7.out.trans (hb.mono HX7.out.size)).mono HX.out.size)
  refine (turn_no (HD4.out.below hb48) (HR4.out.below hb48) (by have := HLE.out; omega) HFI.out hr4 rfl (by decide) HN2.out).mono ?_
  rintro _ w9 ⟨rfl, hb1⟩
  replace hb := below_next hb hb1
  have hb2 := below_alloc1 w9 (.cells #[.slice none 0 0, .slice none 0 0] 31)
  replace hb := below_next hb hb2
  have HX9 := Lib.hid (HX7.out.trans (hb.mono HX7.out.size))
  clear hb1 hb2 hr4 hb hc4 hb48
  go_upto_region 7 with fail
  generalize w9.alloc _ = wa at HX9 ⊢
  have hxa := HX9.out
  have HC9 := Lib.hid (HC4.out.below (HX.out.trans (hxa.mono HX.out.size)))
  have HR9 := Lib.hid (HR4.out.below (HX.out.trans (hxa.mono HX.out.size)))
  have HD9 := Lib.hid (HD4.out.below (HX.out.trans (hxa.mono HX.out.size)))
  have HD59 := Lib.hid (HD54.out.below (HX.out.trans (hxa.mono HX.out.size)))
  have HCV9 := Lib.hid (HCV.out.below (HX.out.trans (hxa.mono HX.out.size)))
  have HB9 := Lib.hid (below_next HB4.out (HX.out.trans (hxa.mono HX.out.size)))
  have HD89 := Lib.hid (HD8.out.below hxa)
  replace hx4' := (hxa.block _ (lt_of_heap hx4')).trans hx4'
  replace hx5' := (hxa.block _ (lt_of_heap hx5')).trans hx5'
  replace hx8 := (hxa.block _ (lt_of_heap hx8)).trans hx8
  clear hxa HX HX7 HX9 HC4 HR4 HD4 HD54 HCV HB4 HD8
  have hown := sw_own_empty wa wa.heap.size wa.heap.size rfl (Nat.le_refl _)
  have hbA := below_alloc1 wa (.cells #[] 41)
  have HRA := Lib.hid (HR9.out.below hbA)
  have HLL : Hid (([] : List Req).length + l.length ≤ 1000000) := Lib.hid (by have := HLE.out; simp; omega)
  have HSZ : Hid (wa.heap.size ≤ (wa.alloc (.cells #[] 41)).heap.size) := Lib.hid (by simp)
  go_wp2_with (at_builtin; refine wpList_append_reqs rfl (.tmp 54) (.tmp 55) rfl wa.heap.size _ _ [] l rfl rfl hown HRA.out HLL.out HSZ.out ?_; intro vp w10 hown2 hgr2; replace hgr2 : (wa.alloc (.cells #[] 41)).grownBy w10 (some wa.heap.size) := hgr2; obtain ⟨g, cap, cur, rfl, hcap, hgx, hge, h5, hsz⟩ := own_two HLE.out hown2; have hfz : w10.frozen? ⟨g, 6, none⟩ = false := Lib.frozen_of_heap hgx 6; have hcg := Lib.cell_of_heap hgx 6; rw [Array.getElem?_eq_getElem (show 6 < cur.size by omega)] at hcg; clear hown2 hown)
  have hbW : RowKit.Below wa.heap.size wa (w10.setCell ⟨g, 6, none⟩ (.string ⟨#[]⟩)) := by
    have h1 := hbA.grown hgr2 hbA.size (fun q hq => by obtain rfl := Option.some.inj hq; exact Nat.le_refl _)
    exact h1.grown (Only.setCell w10 g 6 (.string ⟨#[]⟩) 0) h1.size (fun q hq => by obtain rfl := Option.some.inj hq; exact hge)
  have hpl : ReqsIn (w10.setCell ⟨g, 6, none⟩ (.string ⟨#[]⟩)) (.slice (some ⟨g, 0, none⟩) 2 cap) plR := plain_row hgx hcap (by rw [h5, HLQ.out])
  replace hx4' := (hbW.block _ (lt_of_heap hx4')).trans hx4'
  replace hx5' := (hbW.block _ (lt_of_heap hx5')).trans hx5'
  replace hx8 := (hbW.block _ (lt_of_heap hx8)).trans hx8
  have HPR := Lib.hid hpl
  have HBW := Lib.hid hbW
  clear hgr2 hgx h5 hfz hcg hcap hge hsz hpl hbW hbA HRA
  go_upto_region 9 with fail
  generalize World.setCell _ _ _ = wb at HPR HBW hx4' hx5' hx8 ⊢
  refine sn_r9 b4 b5 b8 _ _ _ _ _ _ _ _ _ _ _ LC exM l plR d D wb _ hx4' hx5' hx8 (HC9.out.below HBW.out) (HR9.out.below HBW.out) HPR.out (by have := HLE.out; omega) (by decide) HFI.out plain_fits (HD9.out.below HBW.out) HWF.out (HD59.out.below HBW.out) (HD89.out.below HBW.out) HRE.out HPL.out (HCV9.out.below HBW.out) ?_
  intros
  rename_i wx hwx
  go_wp2_with fail
  go_ret
  exact ⟨ret_bool rfl, (below_next HB9.out HBW.out).trans (hwx.mono (below_next HB9.out HBW.out).size)⟩

end Go.Proofs.YtjcogpalmgcpbaaGreat
