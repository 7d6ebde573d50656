/- The argument of the laws of exchanges, opened: a case by value. -/
import Derived.Test.YtjcogpalmgcpbaaGreatGeau
import Derived.Test.YtjcogpalmgcpbaaGreatGear
/- What trading keeps, and what a circle is, in plain words. -/
namespace Go.Proofs.YtjcogpalmgcpbaaGreat
open Go Go.Proofs Go.RowKit Go.Sort Go.Lib
variable {L : List Off} {M : List Seat} {most : Int} {l : List Req} {d e : Deal} {c : List Nat}

theorem circle_ok (h : circleP L M most l d = some c) : isB l (canP (actS l) d l) c = true ∧ OkS L M most (turnP l d c).seats := by
  unfold circleP at h
  refine ⟨mem_allC.1 (List.mem_of_find?_eq_some h), ?_⟩
  have := List.find?_some h
  unfold goodC at this
  exact checkP_ok.1 (of_decide_eq_true this)
theorem circle_ring (h : circleP L M most l d = some c) : Ring (actS l) d (c.map (atR l)) := chain_ring (isB_iff.1 (circle_ok h).1).2.2.1
theorem reach_ok (h : Reach L M most l d e) : OkS L M most d.seats → OkS L M most e.seats := by
  induction h with
  | refl => exact id
  | step h _ ih => exact fun _ => ih (circle_ok h).2
theorem reach_students (h : Reach L M most l d e) : e.seats.map Seat.student = d.seats.map Seat.student := by
  induction h with
  | refl => rfl
  | step h _ ih => exact ih.trans (turn_students _ _)
theorem reach_len (h : Reach L M most l d e) : e.seats.length = d.seats.length := by
  have := congrArg List.length (reach_students h)
  simpa using this
theorem reach_waits_len (h : Reach L M most l d e) : e.waits.length ≤ d.waits.length := by
  induction h with
  | refl => exact Nat.le_refl _
  | step h _ ih =>
    have := turn_waits_len _ _ (circle_ring h)
    unfold turnP at ih
    omega
theorem reach_waits_sub (h : Reach L M most l d e) {x : Seat} : x ∈ e.waits → x ∈ d.waits := by
  induction h with
  | refl => exact id
  | step h _ ih => exact fun hx => turn_waits_sub _ _ (ih hx)
theorem isB_lt {can : List Nat} (h : isB l can c = true) {n : Nat} (hn : n ∈ c) : n ∈ can := by
  obtain ⟨i, hi⟩ := List.mem_iff_getElem?.1 hn
  exact ((isB_iff.1 h).2.2.1 i n hi).1
theorem reach_waits_out (h : Reach L M most l d e) {x : Seat} : x ∈ d.waits → x ∈ e.waits ∨ ∃ k, k < l.length ∧ seatOf (atR l k) = x ∧ (atR l k).give.size ≠ 0 := by
  induction h with
  | refl => exact .inl
  | step h _ ih =>
    intro hx
    rcases turn_waits_out (List.map (atR l) _) _ hx with h1 | ⟨r, hr, rfl⟩
    · exact ih h1
    · obtain ⟨n, hn, rfl⟩ := List.mem_map.1 hr
      have hm := mem_canP.1 (isB_lt (circle_ok h).1 hn)
      exact .inr ⟨n, hm.1, rfl, hm.2.give⟩
/-- A circle gives what it gets. -/
theorem chain_codes {can : List Nat} (c : List Nat) : ∀ n, Chain l can (c ++ [n]) → (c ++ [n]).map (fun k => (atR l k).give) = (atR l ((c ++ [n]).headD 0)).give :: c.map (fun k => (atR l k).code) := by
  refine snoc_ind (p := fun c => ∀ n, Chain l can (c ++ [n]) → (c ++ [n]).map (fun k => (atR l k).give) = (atR l ((c ++ [n]).headD 0)).give :: c.map (fun k => (atR l k).code)) (fun n _ => rfl) (fun a x ih n h => ?_) c
  rw [chain_snoc] at h
  have h1 := ih x h.1
  have hf := h.2.2
  have he : (atR l x).code = (atR l n).give := by
    unfold followsB at hf
    rw [last_getD, show (a ++ [x]).isEmpty = false by simp] at hf
    simp only [Bool.false_or, Bool.and_eq_true] at hf
    exact of_decide_eq_true hf.1.2
  have hh : (a ++ [x] ++ [n]).headD 0 = (a ++ [x]).headD 0 := by cases a <;> rfl
  rw [hh, List.map_append, h1, List.map_append]
  simp [he]
theorem ring_perm {can : List Nat} (h : isB l can c = true) (q : ByteArray → Bool) : (c.map fun k => (atR l k).give).countP q = (c.map fun k => (atR l k).code).countP q := by
  obtain ⟨h1, _, h3, h4⟩ := isB_iff.1 h
  rcases snoc_cases c with rfl | ⟨a, x, rfl⟩
  · rfl
  · rw [chain_codes a x h3]
    have : (atR l x).code = (atR l ((a ++ [x]).headD 0)).give := by
      unfold closesB at h4
      rw [last_getD] at h4
      exact of_decide_eq_true h4
    rw [← this, List.map_append, List.countP_append, List.countP_cons, List.map_singleton, List.countP_singleton, Nat.add_comm]
theorem turn_code (h : circleP L M most l d = some c) (p : Seat → Bool) (q : ByteArray → Bool) (hp : ∀ r ∈ actS l, ∀ x, p ⟨r.student, x⟩ = q x) : (turnP l d c).seats.countP p = d.seats.countP p := by
  have hr := circle_ring h
  have h1 := turn_count p _ _ hr
  have h2 := ring_perm (circle_ok h).1 q
  have ha : ∀ k ∈ c, atR l k ∈ actS l := fun k hk => (mem_canP.1 (isB_lt (circle_ok h).1 hk)).2.act
  have hg : ((c.map (atR l)).map giveOf).countP p = (c.map fun k => (atR l k).give).countP q := by
    rw [List.map_map, List.countP_map, List.countP_map]
    exact List.countP_congr fun k hk => by
      show p ⟨(atR l k).student, (atR l k).give⟩ = true ↔ q (atR l k).give = true
      rw [hp _ (ha k hk)]
  have hs : ((c.map (atR l)).map seatOf).countP p = (c.map fun k => (atR l k).code).countP q := by
    rw [List.map_map, List.countP_map, List.countP_map]
    exact List.countP_congr fun k hk => by
      show p ⟨(atR l k).student, (atR l k).code⟩ = true ↔ q (atR l k).code = true
      rw [hp _ (ha k hk)]
  unfold turnP
  omega
theorem reach_code (h : Reach L M most l d e) (p : Seat → Bool) (q : ByteArray → Bool) (hp : ∀ r ∈ actS l, ∀ x, p ⟨r.student, x⟩ = q x) : e.seats.countP p = d.seats.countP p := by
  induction h with
  | refl => rfl
  | step h _ ih => exact ih.trans (turn_code h p q hp)
/-- How many seats a student, or a course, has. -/
def cntB (st : Int) (c : ByteArray) (x : Seat) : Bool := decide (x.student = st) || (!decide (c.size = 0) && decide (x.code = c))
def cntF (l : List Seat) (st : Int) (c : ByteArray) : Nat := l.countP (cntB st c)
theorem reach_cnt_student (h : Reach L M most l d e) (st : Int) : cntF e.seats st ⟨#[]⟩ = cntF d.seats st ⟨#[]⟩ := by
  have hc : ∀ l : List Seat, cntF l st ⟨#[]⟩ = (l.map Seat.student).countP fun y => decide (y = st) := fun l => by
    unfold cntF
    rw [List.countP_map]
    exact List.countP_congr fun x _ => by
      show (decide (x.student = st) || false) = true ↔ decide (x.student = st) = true
      rw [Bool.or_false]
  rw [hc, hc, reach_students h]
theorem act_student {r : Req} (h : r ∈ actS l) : r.student ≠ 0 := fun h0 => by
  have h1 := (mk_act_mem h).2.2.1
  have h2 := (mk_act_mem h).2.2.2
  have hb : eqReq r (bareR r) = false := by
    cases hq : eqReq r (bareR r) with
    | false => rfl
    | true =>
      have := congrArg Req.cancel ((eqReq_iff _ _).1 hq)
      rw [h2] at this
      cases this
  revert h1
  unfold chkR
  rw [h0, hb]
  simp only [h2, Bool.false_eq_true, if_false]
  intro h1
  repeat' split at h1
  all_goals first | cases h1 | omega
theorem reach_cnt_code (h : Reach L M most l d e) (c : ByteArray) : cntF e.seats 0 c = cntF d.seats 0 c :=
  reach_code h _ (fun x => !decide (c.size = 0) && decide (x = c)) fun r hr x => by
    unfold cntB
    rw [decide_eq_false (act_student hr), Bool.false_or]
/-- Each one wants what the next one gives. -/
theorem isB_at {can : List Nat} (h : isB l can c = true) {i : Nat} (hi : i < c.length) : c.getD 0 0 ≤ c.getD i 0 ∧ (atR l (c.getD i 0)).code = (atR l (c.getD ((i + 1) % c.length) 0)).give := by
  obtain ⟨h1, h2, h3, h4⟩ := isB_iff.1 h
  have hg : ∀ j, j < c.length → c[j]? = some (c.getD j 0) := fun j hj => by rw [List.getD_eq_getElem?_getD, List.getElem?_eq_getElem hj]; rfl
  have hhd : c.headD 0 = c.getD 0 0 := by cases c <;> rfl
  have hst : ∀ j, j + 1 < c.length → c.getD 0 0 < c.getD (j + 1) 0 ∧ (atR l (c.getD j 0)).code = (atR l (c.getD (j + 1) 0)).give := fun j hj => by
    have hf := (h3 (j + 1) _ (hg (j + 1) hj)).2
    rw [List.take_add_one, hg j (by omega), Option.toList_some] at hf
    unfold followsB at hf
    rw [last_getD, show (c.take j ++ [c.getD j 0]).isEmpty = false by simp] at hf
    simp only [Bool.false_or, Bool.and_eq_true] at hf
    have hh : (c.take j ++ [c.getD j 0]).headD 0 = c.getD 0 0 := by
      cases j with
      | zero => rfl
      | succ j => cases c with
        | nil => simp at hj
        | cons a c => rfl
    exact ⟨by rw [← hh]; exact of_decide_eq_true hf.1.1, of_decide_eq_true hf.1.2⟩
  refine ⟨?_, ?_⟩
  · cases i with
    | zero => exact Nat.le_refl _
    | succ i => exact Nat.le_of_lt (hst i hi).1
  · by_cases hn : i + 1 < c.length
    · rw [Nat.mod_eq_of_lt hn]; exact (hst i hn).2
    · have hn : i + 1 = c.length := by omega
      rw [hn, Nat.mod_self, ← hhd]
      unfold closesB at h4
      have hl : c.getLastD 0 = c.getD i 0 := by
        rcases snoc_cases c with rfl | ⟨a, x, rfl⟩
        · simp at hi
        · rw [last_getD]
          have : i = a.length := by simp at hn; omega
          rw [this, List.getD_eq_getElem?_getD, List.getElem?_append_right (Nat.le_refl _)]; simp
      rw [hl] at h4
      exact of_decide_eq_true h4
/-- A longer circle is found only where no two could exchange alone. -/
theorem circle_short (h : circleP L M most l d = some c) (h2 : 2 < c.length) {a b : Nat} (hB : isB l (canP (actS l) d l) [a, b] = true) : ¬ OkS L M most (turnP l d [a, b]).seats := fun hO => by
  have hm : [a, b] ∈ extP l (canP (actS l) d l) 2 [] := mem_circles.2 ⟨rfl, (isB_iff.1 hB).2.2⟩
  have hgd : goodC L M most l d [a, b] = true := decide_eq_true (checkP_ok.2 hO)
  unfold circleP allC at h
  rw [List.append_assoc, List.find?_append] at h
  cases hf : (extP l (canP (actS l) d l) 2 []).find? (goodC L M most l d) with
  | none => exact absurd hgd (by simpa using List.find?_eq_none.1 hf _ hm)
  | some y =>
    rw [hf, Option.some_or] at h
    have := (mem_circles.1 (List.mem_of_find?_eq_some hf)).1
    rw [Option.some.inj h] at this
    omega
end Go.Proofs.YtjcogpalmgcpbaaGreat
namespace Go.Proofs.YtjcogpalmgcpbaaGreat
open Go Go.ChangeShapes Go.WideShapes Go.ChangeAt Go.WideElems Go.RowKit Go.Lib
section
variable {H : Type} {enc : TypeId × Value → H} {w : World} {held : Bool} {fuel : Nat} {c : Value} {y : DataW H × List MemPlace}
theorem intss_cap (h : DataW.trod enc Tryz.prog w 0 (fun _ => true) held fuel 23 [c] = some y) : ∀ A n cc, c = .slice A n cc → n ≤ cc := by
  rcases DataW.trod_slice Tryz.underlying23 h with ⟨hc, hx⟩ | ⟨a, len, cap, elems, rest, m, _, hc, -, hb, hl, hm, hlen, hel, -, -⟩
  · simp at hc
    rintro A n cc e
    rw [hc] at e
    injection e with _ e2 e3
    omega
  · simp at hc
    rintro A n cc e
    rw [hc] at e
    injection e with _ e2 e3
    omega
end
theorem trod_struct4' {H : Type} {enc : TypeId × Value → H} {P : Program} {w : World} {base : Nat} {spare : Nat → Bool} {held : Bool} {t : TypeId} {f0 f1 f2 f3 : Field} {fuel : Nat} {cs : List Value} {x : DataW H × List MemPlace} (ht : P.underlying t = some (.struct #[f0, f1, f2, f3])) (h : DataW.trod enc P w base spare held fuel t cs = some x) :
    ∃ y0 y1 y2 n, DataW.trod enc P w base spare held n f0.type ((cs.drop f0.offset).take (P.cellsOf f0.type)) = some y0 ∧
      DataW.trod enc P w base spare held n f1.type ((cs.drop f1.offset).take (P.cellsOf f1.type)) = some y1 ∧
      DataW.trod enc P w base spare held n f2.type ((cs.drop f2.offset).take (P.cellsOf f2.type)) = some y2 := by
  obtain ⟨xs, n, _, rfl, hl, hlen, hf⟩ := DataW.trod_struct ht h
  match xs, hlen with
  | [y0, y1, y2, y3], _ => exact ⟨y0, y1, y2, n, by simpa using hf 0 f0 rfl, by simpa using hf 1 f1 rfl, by simpa using hf 2 f2 rfl⟩
theorem case29_info : ∃ f0 f1 f2 f3, Tryz.prog.underlying 25 = some (.struct #[f0, f1, f2, f3]) ∧ (f0.type, f1.type, f2.type, f0.offset, f1.offset, f2.offset) = (22, 22, 23, 0, 1, 2) :=
  ⟨_, _, _, _, Tryz.underlying25, by kernel_rfl⟩
/-- A case by value. -/
structure Case29In (w : World) (v : Value) (A0 A1 A2 : Option Addr) (n0 n1 n2 c0 c1 c2 : Nat) (m : Int) : Prop where
  eq : v = .agg #[.slice A0 n0 c0, .slice A1 n1 c1, .slice A2 n2 c2, .int .u8 m]
  h0 : IntsIn w.heap.size A0 n0 w
  h1 : IntsIn w.heap.size A1 n1 w
  h2 : IntssIn w.heap.size A2 n2 w
  hc : n2 ≤ c2
  m0 : 0 ≤ m
  m1 : m ≤ 255
set_option maxRecDepth 100000 in
theorem open_case29 {H : Type} {enc : TypeId × Value → H} {w : World} {held : Bool} {r : Go.Reach} {b0 : Nat} {v : Value} {d : DataW H} {p : List MemPlace} (h : DataW.Trod enc Tryz.prog w 0 (fun _ => true) held 25 v d p) (hv : Value.okWide Tryz.prog w r b0 25 v) :
    ∃ A0 A1 A2 n0 n1 n2 c0 c1 c2 m, Case29In w v A0 A1 A2 n0 n1 n2 c0 c1 c2 m := by
  unfold Value.okWide at hv
  rw [Tryz.underlying25] at hv
  obtain ⟨cs, rfl, hsz, ts, hts, _, hat⟩ := hv
  have hc : Tryz.prog.cellTypes Tryz.prog.depth 25 = some [22, 22, 23, 5] := by kernel_rfl
  have hn : Tryz.prog.cellsOf 25 = 4 := by kernel_rfl
  obtain rfl := Option.some.inj (hts.symm.trans hc)
  rw [hn] at hsz
  obtain ⟨l⟩ := cs
  match l, hsz with
  | [c0, c1, c2, c3], _ =>
    obtain ⟨t3, r3, o3⟩ := hat 3 c3 rfl
    obtain rfl : 5 = t3 := Option.some.inj r3
    obtain ⟨x3, rfl, y3⟩ := cell_int Tryz.underlying5 o3
    obtain ⟨fuel, hf⟩ := h
    obtain ⟨f0, f1, f2, f3, hu, ht⟩ := case29_info
    simp only [Prod.mk.injEq] at ht
    obtain ⟨e0, e1, e2, o0, o1, o2⟩ := ht
    obtain ⟨z0, z1, z2, m, g0, g1, g2⟩ := trod_struct4' hu hf
    have ca : Tryz.prog.cellsOf 22 = 1 := by kernel_rfl
    have cb : Tryz.prog.cellsOf 23 = 1 := by kernel_rfl
    rw [e0, o0, ca] at g0
    rw [e1, o1, ca] at g1
    rw [e2, o2, cb] at g2
    obtain ⟨A0, n0, k0, rfl, i0⟩ := ints_in (c := c0) g0
    obtain ⟨A1, n1, k1, rfl, i1⟩ := ints_in (c := c1) g1
    have hcap := intss_cap (c := c2) g2
    obtain ⟨A2, n2, k2, rfl, i2⟩ := intss_in (c := c2) g2
    exact ⟨A0, A1, A2, n0, n1, n2, k0, k1, k2, x3, rfl, i0, i1, i2, hcap _ _ _ rfl, (has_u8 y3).1, (has_u8 y3).2⟩
end Go.Proofs.YtjcogpalmgcpbaaGreat
