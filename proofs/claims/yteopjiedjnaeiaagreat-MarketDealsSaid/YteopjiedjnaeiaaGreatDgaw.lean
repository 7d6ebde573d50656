/- Regions in which rows are appended to, a struct is laid and written, and calls are made, in any order: what each operation leaves. -/
import Derived.Test.YteopjiedjnaeiaaGreatDgav
import Derived.ChangeMaps
import Derived.Test.YteopjiedjnaeiaaGreatDgab
/- MarketFirst in plain words: requests without Give, each with a number of its own; one that comes last, and one that comes first. -/
namespace Go.Proofs.YteopjiedjnaeiaaGreat
open Go Go.Proofs Go.RowKit Go.Maps Go.Sort Go.Lib

theorem fs_right : ∀ g ∈ codesL, codeL g.data.toList = true := by decide
theorem fs_size : ∀ g ∈ codesL, g.size = 2 := by decide
theorem fs_day : ∀ k : Nat, k < 20 → rightB (400 + k) = true := by decide
/-- A request as Single makes it: of number q, with a priority from lo to hi. -/
structure Pln (q lo hi : Int) (r : Req) : Prop where
  s0 : 1 ≤ r.server
  s1 : r.server ≤ 3
  sq : r.seq = q
  cn : r.cancel = false
  t0 : 1 ≤ r.student
  t1 : r.student ≤ 5
  tm : r.term = 4
  cd : r.code ∈ codesL
  gv : r.give = ⟨#[]⟩
  p0 : lo ≤ r.priority
  p1 : r.priority ≤ hi
  dy : ∃ k : Nat, k < 20 ∧ r.day = 400 + k
section
variable {q lo hi : Int} {r : Req}
theorem Pln.prio (h : Pln q lo hi r) {p lo' hi' : Int} (h0 : lo' ≤ p) (h1 : p ≤ hi') : Pln q lo' hi' { r with priority := p } :=
  ⟨h.s0, h.s1, h.sq, h.cn, h.t0, h.t1, h.tm, h.cd, h.gv, h0, h1, h.dy⟩
theorem Pln.chk (h : Pln q lo hi r) (hq : 1 ≤ q) (h0 : 0 ≤ lo) (h1 : hi ≤ 100) : chkR r = 0 := by
  obtain ⟨a, b, cc, d, f, g, k, p, y⟩ := r
  obtain ⟨s0, s1, sq, cn, t0, t1, tm, cd, gv, p0, p1, y0, hy, rfl⟩ := h
  simp only at s0 s1 sq cn t0 t1 tm cd gv p0 p1
  subst sq cn tm gv
  have heq : ¬ eqReq ⟨a, b, false, d, 4, g, ⟨#[]⟩, p, 400 + y0⟩ ⟨a, b, true, 0, 0, ⟨#[]⟩, ⟨#[]⟩, 0, 0⟩ = true := fun e => by
    have := congrArg Req.cancel ((eqReq_iff _ _).1 e)
    cases this
  have hgv : ¬ ((⟨#[]⟩ : ByteArray).toList ≠ [] ∧ codeL (⟨#[]⟩ : ByteArray).data.toList = false) := by
    rintro ⟨h, h2⟩
    exact h (by rw [ByteArray.toList_eq])
  have hkc : ¬ ((⟨#[]⟩ : ByteArray).toList == g.toList) = true := by
    rw [beq_iff_eq, req_ba]
    intro e
    have := fs_size g cd
    rw [← e] at this
    cases this
  rw [chkR_eq, if_neg (by omega), if_neg (by omega), if_neg (by omega), if_neg heq, if_neg (by decide), if_neg (by omega), if_neg (by omega), if_neg (by omega), if_neg (by omega), if_neg (by omega), if_neg (by omega),
    if_neg (by rw [fs_right g cd]; decide), if_neg hgv, if_neg hkc, if_neg (by rw [fs_day y0 hy]; decide)]
theorem Pln.small (h : Pln q lo hi r) (hq : -1000000 ≤ q) (hq2 : q ≤ 1000000) (h0 : -1000000 ≤ lo) (h1 : hi ≤ 1000000) : r.Small := by
  obtain ⟨a, b, cc, d, f, g, k, p, y⟩ := r
  obtain ⟨s0, s1, sq, cn, t0, t1, tm, cd, gv, p0, p1, y0, hy, rfl⟩ := h
  simp only at s0 s1 sq cn t0 t1 tm cd gv p0 p1
  subst sq cn tm gv
  have := fs_size g cd
  exact small_mk (by unfold I64; omega) (by omega) (by decide)
theorem Pln.none (h : Pln q lo hi r) : r.give.size = 0 := by rw [h.gv]; rfl
end
/-- The list of requests. -/
def PlnL (lo hi : Int) (A : List Req) : Prop := ∀ (k : Nat) (r : Req), A[k]? = some r → Pln ((k : Int) + 1) lo hi r
theorem PlnL.nil (lo hi : Int) : PlnL lo hi [] := fun k r h => by simp at h
theorem PlnL.snoc {lo hi : Int} {A : List Req} {r : Req} (h : PlnL lo hi A) (hr : Pln ((A.length : Int) + 1) lo hi r) : PlnL lo hi (A ++ [r]) := fun k x hk => by
  rcases Nat.lt_trichotomy k A.length with h' | h' | h'
  · rw [List.getElem?_append_left h'] at hk; exact h k x hk
  · subst h'
    simp at hk
    subst hk
    exact hr
  · rw [List.getElem?_eq_none (by simp; omega)] at hk; cases hk
section
variable {lo hi : Int} {A O : List Req} {r : Req}
theorem PlnL.mem (h : PlnL lo hi A) (hr : r ∈ A) : ∃ k : Nat, k < A.length ∧ Pln ((k : Int) + 1) lo hi r := by
  obtain ⟨k, hk, rfl⟩ := List.mem_iff_getElem.1 hr
  exact ⟨k, hk, h k _ (List.getElem?_eq_getElem hk)⟩
theorem PlnL.nums (h : PlnL lo hi A) : A.Pairwise fun a b => numR a ≠ numR b := by
  rw [List.pairwise_iff_getElem]
  intro i j hi' hj hij e
  have h1 := (h i _ (List.getElem?_eq_getElem hi')).sq
  have h2 := (h j _ (List.getElem?_eq_getElem hj)).sq
  have := congrArg Prod.snd e
  simp only [numR] at this
  omega
theorem PlnL.right (h : PlnL lo hi A) (h0 : 0 ≤ lo) (h1 : hi ≤ 100) : ∀ r ∈ A, chkR r = 0 ∧ r.cancel = false := fun r hr => by
  obtain ⟨k, hk, hp⟩ := h.mem hr
  exact ⟨hp.chk (by omega) h0 h1, hp.cn⟩
theorem PlnL.small (h : PlnL lo hi A) (hA : A.length ≤ 1000) (h0 : 0 ≤ lo) (h1 : hi ≤ 100) : ∀ r ∈ A, r.Small := fun r hr => by
  obtain ⟨k, hk, hp⟩ := h.mem hr
  exact hp.small (by omega) (by omega) (by omega) (by omega)
theorem PlnL.give (h : PlnL lo hi A) : ∀ r ∈ A, r.give.size = 0 := fun r hr => by
  obtain ⟨k, hk, hp⟩ := h.mem hr
  exact hp.none
theorem PlnL.ord (h : PlnL lo hi A) (h0 : 0 ≤ lo) (h1 : hi ≤ 100) (hO : ActOrd A O) : IsOrd O A := hO.whole (h.right h0 h1) h.nums
theorem pln_more {lo' hi' : Int} (h : PlnL lo hi A) (hA : A.length ≤ 12) (hr : Pln 100 lo' hi' r) : (A ++ [r]).Pairwise fun a b => numR a ≠ numR b := by
  rw [List.pairwise_append]
  refine ⟨h.nums, List.pairwise_singleton _ _, fun a ha b hb e => ?_⟩
  rw [List.mem_singleton] at hb
  subst hb
  obtain ⟨k, hk, hp⟩ := h.mem ha
  have := congrArg Prod.snd e
  simp only [numR] at this
  have h1 := hp.sq
  have h2 := hr.sq
  omega
theorem pln_right {lo' hi' : Int} (h : PlnL lo hi A) (h0 : 0 ≤ lo) (h1 : hi ≤ 100) (hr : Pln 100 lo' hi' r) (h0' : 0 ≤ lo') (h1' : hi' ≤ 100) : ∀ x ∈ A ++ [r], chkR x = 0 ∧ x.cancel = false := fun x hx => by
  rw [List.mem_append, List.mem_singleton] at hx
  rcases hx with hx | rfl
  · exact h.right h0 h1 x hx
  · exact ⟨hr.chk (by omega) h0' h1', hr.cn⟩
theorem pln_fits {lo' hi' : Int} (h : PlnL lo hi A) (hA : A.length ≤ 12) (h0 : 0 ≤ lo) (h1 : hi ≤ 100) (hr : Pln 100 lo' hi' r) (h0' : 0 ≤ lo') (h1' : hi' ≤ 100) : ∀ x ∈ A ++ [r], x.fits := fun x hx => by
  rw [List.mem_append, List.mem_singleton] at hx
  rcases hx with hx | rfl
  · exact (h.small (by omega) h0 h1 x hx).fits
  · exact (hr.small (by omega) (by omega) (by omega) (by omega)).fits
/-- With a last one. -/
theorem again_last (h : PlnL 1 4 A) (hA : A.length ≤ 12) (hO : IsOrd O A) (hr : Pln 100 0 0 r) : Again (O ++ [r]) (A ++ [r]) where
  len := by rw [List.length_append, List.length_singleton]; omega
  fits := pln_fits h hA (by omega) (by omega) hr (by omega) (by omega)
  few M hM := by
    have := actR_len_le hM
    rw [List.length_append, List.length_singleton] at this
    omega
  ord O' hO' := isOrd_last hO (hO'.whole (pln_right h (by omega) (by omega) hr (by omega) (by omega)) (pln_more h hA hr)) fun x hx => by
    obtain ⟨k, hk, hp⟩ := h.mem hx
    refine cmpB_prio ?_
    have h1 := hp.p0
    have h2 := hr.p1
    omega
/-- With a first one. -/
theorem again_first (h : PlnL 1 4 A) (hA : A.length ≤ 12) (hO : IsOrd O A) (hr : Pln 100 100 100 r) : Again (r :: O) (A ++ [r]) where
  len := by rw [List.length_append, List.length_singleton]; omega
  fits := pln_fits h hA (by omega) (by omega) hr (by omega) (by omega)
  few M hM := by
    have := actR_len_le hM
    rw [List.length_append, List.length_singleton] at this
    omega
  ord O' hO' := isOrd_first hO (hO'.whole (pln_right h (by omega) (by omega) hr (by omega) (by omega)) (pln_more h hA hr)) fun x hx => by
    obtain ⟨k, hk, hp⟩ := h.mem hx
    refine cmpB_prio ?_
    have h1 := hp.p1
    have h2 := hr.p0
    omega
theorem again_all (h : PlnL 1 4 A) (hA : A.length ≤ 12) (hO : ActOrd A O) : Again O A where
  len := by omega
  fits r hr := (h.small (by omega) (by omega) (by omega) r hr).fits
  few M hM := by
    have := actR_len_le hM
    omega
  ord _O' hO' := (h.ord (by omega) (by omega) hO').same (h.ord (by omega) (by omega) hO) fun _ => Iff.rfl
end
section
variable {L : List Off} {M : List Seat} {most : Int} {A O : List Req} {r : Req} {s : Seat}
/-- A seat that waits does not fit: with it, the seats are not permitted. -/
theorem wait_bad (hc : Calm L) (h : PlnL 1 4 A) (hA : A.length ≤ 12) (hO : IsOrd O A) (hs : s ∈ (dealP L M most O).waits) : ¬ checkP L M most ((dealP L M most O).seats ++ [s]) ((dealP L M most O).seats ++ [s]).length = 0 := by
  rw [checkP_ok, okS_snoc]
  rintro ⟨_, h2⟩
  have lO := hO.1.length_eq
  exact waits_unfit hc O (fun r hr => h.give r (hO.1.mem_iff.1 hr)) (by omega) hs h2
theorem last_seats (hr : r.give.size = 0) : (dealP L M most (O ++ [r])).seats.take (dealP L M most O).seats.length = (dealP L M most O).seats ∧ (dealP L M most O).seats.length ≤ (dealP L M most (O ++ [r])).seats.length ∧ (dealP L M most (O ++ [r])).seats.length ≤ (dealP L M most O).seats.length + 1 := by
  rcases deal_last (L := L) (met := M) (most := most) (O := O) hr with e | e <;> rw [e]
  · exact ⟨List.take_length, Nat.le_refl _, Nat.le_succ _⟩
  · refine ⟨by simp, by simp, by simp⟩
theorem first_seat (hc : Calm L) (h : PlnL 1 4 A) (hA : A.length ≤ 12) (hO : IsOrd O A) (hr : Pln 100 100 100 r) : ((dealP L M most (r :: O)).seats[0]? = some (seatOf r)) ↔ fitsP L M most [] (seatOf r) = 0 := by
  rw [← List.head?_eq_getElem?]
  have lO := hO.1.length_eq
  refine deal_first hc (fun x hx => ?_) (by omega)
  rcases List.mem_cons.1 hx with rfl | hx
  · exact hr.none
  · exact h.give x (hO.1.mem_iff.1 hx)
theorem fs_one (x : Seat) : checkP L M most [x] 1 = fitsP L M most [] x := by
  show (if (0 : Int) = 0 then fitsP L M most [] x else 0) = _
  simp
end
end Go.Proofs.YteopjiedjnaeiaaGreat
/- Arguments of the law MarketDeals, opened: a raw catalog, seats, requests. -/
namespace Go.Proofs.YteopjiedjnaeiaaGreat
open Go Go.Deep Go.ChangeShapes Go.WideShapes Go.ChangeAt Go.WideElems Go.RowKit Go.Lib

section
variable {H : Type} {enc0 : TypeId × Value → H} {w : World} {held : Bool} {fuel : Nat}
/-- A struct whose fields are one cell each. -/
theorem fields_open {t : TypeId} {fs : Array Field} {tys : Array TypeId} {cs : List Value} {y : DataW H × List MemPlace} (hu : Tryz.prog.underlying t = some (.struct fs)) (ht : fs.map (·.type) = tys) (ho : oneCellFields Tryz.prog fs = true) (hcc : Tryz.prog.cellsOf t = tys.size)
    (h : DataW.trod enc0 Tryz.prog w 0 (fun _ => true) held fuel t cs = some y) : cs.length = tys.size ∧ ∃ n, ∀ i (hi : i < tys.size), ∃ z, DataW.trod enc0 Tryz.prog w 0 (fun _ => true) held n tys[i] ((cs.drop i).take 1) = some z := by
  obtain ⟨xs, n, _, rfl, hl, hlen, hf⟩ := DataW.trod_struct hu h
  rw [hcc] at hl
  have hsz : fs.size = tys.size := by have := congrArg Array.size ht; simpa using this
  refine ⟨hl, n, fun i hi => ?_⟩
  have hfi : fs[i]? = some fs[i] := Array.getElem?_eq_getElem (by omega)
  have h1 := hf i _ hfi
  obtain ⟨h2, h3⟩ := hone_of ho i _ hfi
  have h4 : fs[i].type = tys[i] := by
    have := congrArg (fun a => a[i]?) ht
    simp only [Array.getElem?_map, hfi] at this
    rw [Array.getElem?_eq_getElem hi] at this
    simpa using this
  rw [h2, h3, h4, List.getElem?_eq_getElem (by omega)] at h1
  exact ⟨_, h1⟩
variable {α : Type} {enc : α → List Value} {k : Nat}
theorem rowsE (hk : ∀ x, (enc x).length = k) (b : Nat) : ∀ (L : List α) (o : Nat), (∀ i x, L[i]? = some x → ∀ r u, (enc x)[r]? = some u → w.cell? ⟨b, o + i * k + r, none⟩ = some u) → CellsAt enc w b o L
  | [], _, _ => fun j u h => by simp [flatE] at h
  | x :: L, o, hr => fun j u h => by
    rw [show flatE enc (x :: L) = enc x ++ flatE enc L from rfl] at h
    by_cases hj : j < k
    · rw [List.getElem?_append_left (by rw [hk]; exact hj)] at h
      have := hr 0 x rfl j u h
      rwa [Nat.zero_mul, Nat.add_zero] at this
    · rw [List.getElem?_append_right (by rw [hk]; omega), hk] at h
      have := rowsE hk b L (o + k) (fun i x' hi r u' hu => by have := hr (i + 1) x' hi r u' hu; rwa [Nat.add_mul, Nat.one_mul, ← Nat.add_assoc, Nat.add_right_comm o] at this) (j - k) u h
      rwa [show o + k + (j - k) = o + j by omega] at this
theorem rows_open {a : Addr} {Good : α → Prop} : ∀ (n : Nat), (∀ i, i < n → ∃ x : α, w.cells? 0 (a.add (i * k)) k = some (enc x) ∧ Good x) → ∃ L : List α, L.length = n ∧ (∀ x ∈ L, Good x) ∧ ∀ i x, L[i]? = some x → w.cells? 0 (a.add (i * k)) k = some (enc x)
  | 0, _ => ⟨[], rfl, by simp, fun k r h => by simp at h⟩
  | n + 1, h => by
    obtain ⟨L, hl, hw, hr⟩ := rows_open n (fun i hi => h i (by omega))
    obtain ⟨x, hc, hx⟩ := h n (by omega)
    refine ⟨L ++ [x], by simp [hl], fun r hr => ?_, fun i r hi => ?_⟩
    · rcases List.mem_append.1 hr with h1 | h1
      · exact hw r h1
      · obtain rfl := List.mem_singleton.1 h1; exact hx
    · by_cases hkn : i < L.length
      · rw [List.getElem?_append_left hkn] at hi; exact hr i r hi
      · have hk2 := (List.getElem?_eq_some_iff.1 hi).1
        obtain rfl : i = n := by simp at hk2; omega
        rw [List.getElem?_append_right (by omega)] at hi
        simp [hl] at hi
        subst hi; exact hc
/-- A slice that came in. -/
theorem slice_open {t te : TypeId} {Good : α → Prop} (hu : Tryz.prog.underlying t = some (.slice te)) (hcc : Tryz.prog.cellsOf te = k) (hk : ∀ x, (enc x).length = k) (hk0 : 0 < k)
    (hop : ∀ (fuel : Nat) (cs : List Value) (y : DataW H × List MemPlace), DataW.trod enc0 Tryz.prog w 0 (fun _ => true) held fuel te cs = some y → ∃ x, cs = enc x ∧ Good x)
    {c : Value} {y : DataW H × List MemPlace} (h : DataW.trod enc0 Tryz.prog w 0 (fun _ => true) held fuel t [c] = some y) : ∃ L : List α, RowIn enc w c L ∧ (∀ x ∈ L, Good x) ∧ L.length ≤ maxLen := by
  rcases DataW.trod_slice hu h with ⟨hc, hx⟩ | ⟨a, len, cap, elems, rest, m, _, hc, -, hb, hl, hm, hlen, hel, -, -⟩
  · simp at hc
    subst hc
    exact ⟨[], .nil enc w, by simp, Nat.zero_le _⟩
  · simp at hc
    subst hc
    rw [hcc] at hel
    obtain ⟨L, hln, hw, hr⟩ := rows_open (w := w) (a := a) (enc := enc) (Good := Good) (k := k) len (fun i hi => by
      have h1 := hel i hi
      rw [List.getElem?_eq_getElem (by omega), Option.bind_eq_some_iff] at h1
      obtain ⟨cs, h2, h3⟩ := h1
      obtain ⟨x, rfl, hx⟩ := hop _ _ _ h3
      exact ⟨x, h2, hx⟩)
    refine ⟨L, ⟨some a, cap, by rw [hln], by omega, (fun e => by cases e), fun h0 => ?_⟩, hw, by omega⟩
    have hx := List.getElem?_eq_getElem h0
    have h1 := hr 0 _ hx
    rw [Nat.zero_mul, add_zero] at h1
    have hle := hk L[0]
    obtain ⟨u0, hu0⟩ : ∃ u, (enc L[0])[0]? = some u := ⟨_, List.getElem?_eq_getElem (l := enc L[0]) (i := 0) (by omega)⟩
    have hd0 := (World.cells?_some h1).2.2 0 (by omega)
    rw [add_zero, hu0] at hd0
    obtain ⟨b, o, rfl⟩ := no_path hd0
    refine ⟨b, o, rfl, World.block_lt_of_cell? w _ hd0, rowsE hk b L o fun i x hi r u hu => ?_⟩
    have h2 := hr i x hi
    rw [add_at] at h2
    have hrk : r < k := by have := (List.getElem?_eq_some_iff.1 hu).1; rwa [hk] at this
    have h3 := (World.cells?_some h2).2.2 r hrk
    rw [add_at, hu] at h3
    exact h3
end
section
variable {H : Type} {enc0 : TypeId × Value → H} {w : World} {held : Bool} {fuel : Nat}
theorem int_open {cs : List Value} {y : DataW H × List MemPlace} (h : DataW.trod enc0 Tryz.prog w 0 (fun _ => true) held fuel 3 cs = some y) : ∃ n : Int, cs = encI n ∧ (Lit.int .i64 n).wf = true := by
  obtain ⟨n, e, -, hw⟩ := DataW.trod_int Tryz.underlying3 h
  exact ⟨n, e, hw⟩
theorem text_open {cs : List Value} {y : DataW H × List MemPlace} (h : DataW.trod enc0 Tryz.prog w 0 (fun _ => true) held fuel 9 cs = some y) : ∃ s : ByteArray, cs = encT s ∧ s.size ≤ maxLen := by
  obtain ⟨s, e, -, hw⟩ := DataW.trod_string Tryz.underlying9 h
  exact ⟨s, e, hw⟩
theorem off_info : ∃ fs, Tryz.prog.underlying 57 = some (.struct fs) ∧ fs.map (·.type) = #[9, 3, 3, 22, 55] ∧ oneCellFields Tryz.prog fs = true :=
  ⟨_, Tryz.underlying57, by kernel_rfl, by kernel_rfl⟩
theorem seat_info : ∃ fs, Tryz.prog.underlying 53 = some (.struct fs) ∧ fs.map (·.type) = #[3, 9] ∧ oneCellFields Tryz.prog fs = true :=
  ⟨_, Tryz.underlying53, by kernel_rfl, by kernel_rfl⟩
theorem req_info' : ∃ fs, Tryz.prog.underlying 39 = some (.struct fs) ∧ fs.map (·.type) = #[3, 3, 4, 3, 3, 9, 9, 3, 3] ∧ oneCellFields Tryz.prog fs = true :=
  ⟨_, Tryz.underlying39, by kernel_rfl, by kernel_rfl⟩
theorem raw_info : ∃ fs, Tryz.prog.underlying 32 = some (.struct fs) ∧ fs.map (·.type) = #[28, 29, 3, 30] ∧ oneCellFields Tryz.prog fs = true :=
  ⟨_, Tryz.underlying32, by kernel_rfl, by kernel_rfl⟩
def GoodOff (w : World) (o : Off) : Prop := OffOk w o ∧ o.code.size ≤ maxLen ∧ o.slots.length ≤ maxLen
theorem off_open {cs : List Value} {y : DataW H × List MemPlace} (h : DataW.trod enc0 Tryz.prog w 0 (fun _ => true) held fuel 57 cs = some y) : ∃ o : Off, cs = Off.cells o ∧ GoodOff w o := by
  obtain ⟨fs, hu, ht, ho⟩ := off_info
  obtain ⟨hl, n, hf⟩ := fields_open hu ht ho (by kernel_rfl) h
  match cs, hl with
  | [c0, c1, c2, c3, c4], _ =>
    obtain ⟨_, g0⟩ := hf 0 (by decide)
    obtain ⟨_, g1⟩ := hf 1 (by decide)
    obtain ⟨_, g2⟩ := hf 2 (by decide)
    obtain ⟨_, g3⟩ := hf 3 (by decide)
    obtain ⟨_, g4⟩ := hf 4 (by decide)
    obtain ⟨s0, e0, w0⟩ := text_open g0
    obtain ⟨n1, e1, w1⟩ := int_open g1
    obtain ⟨n2, e2, w2⟩ := int_open g2
    obtain ⟨L3, ⟨p3, d3, e3, r3⟩, _, k3⟩ := slice_open (c := c3) (enc := encI) (k := 1) (Good := fun _ => True) Tryz.underlying22 (by kernel_rfl) (fun _ => rfl) Nat.one_pos (fun _ _ _ h => (int_open h).imp fun _ h => ⟨h.1, trivial⟩) g3
    obtain ⟨L4, ⟨p4, d4, e4, r4⟩, _, _⟩ := slice_open (c := c4) (enc := encT) (k := 1) (Good := fun _ => True) Tryz.underlying55 (by kernel_rfl) (fun _ => rfl) Nat.one_pos (fun _ _ _ h => (text_open h).imp fun _ h => ⟨h.1, trivial⟩) g4
    simp [encT, encI] at e0 e1 e2
    subst e0 e1 e2 e3 e4
    exact ⟨⟨s0, n1, n2, p3, d3, p4, d4, L3, L4⟩, rfl, ⟨⟨p3, d3, rfl, r3⟩, ⟨p4, d4, rfl, r4⟩⟩, w0, k3⟩
theorem seat_open {cs : List Value} {y : DataW H × List MemPlace} (h : DataW.trod enc0 Tryz.prog w 0 (fun _ => true) held fuel 53 cs = some y) : ∃ s : Seat, cs = Seat.cells s ∧ s.wf := by
  obtain ⟨fs, hu, ht, ho⟩ := seat_info
  obtain ⟨hl, n, hf⟩ := fields_open hu ht ho (by kernel_rfl) h
  match cs, hl with
  | [c0, c1], _ =>
    obtain ⟨_, g0⟩ := hf 0 (by decide)
    obtain ⟨_, g1⟩ := hf 1 (by decide)
    obtain ⟨n0, e0, w0⟩ := int_open g0
    obtain ⟨s1, e1, w1⟩ := text_open g1
    simp [encT, encI] at e0 e1
    subst e0 e1
    exact ⟨⟨n0, s1⟩, rfl, w0, w1⟩
theorem req_open {cs : List Value} {y : DataW H × List MemPlace} (h : DataW.trod enc0 Tryz.prog w 0 (fun _ => true) held fuel 39 cs = some y) : ∃ r : Req, cs = encR r ∧ r.wf := by
  obtain ⟨fs, hu, ht, ho⟩ := req_info'
  obtain ⟨hl, n, hf⟩ := fields_open hu ht ho (by kernel_rfl) h
  match cs, hl with
  | [c0, c1, c2, c3, c4, c5, c6, c7, c8], _ =>
    obtain ⟨_, g0⟩ := hf 0 (by decide)
    obtain ⟨_, g1⟩ := hf 1 (by decide)
    obtain ⟨_, g2⟩ := hf 2 (by decide)
    obtain ⟨_, g3⟩ := hf 3 (by decide)
    obtain ⟨_, g4⟩ := hf 4 (by decide)
    obtain ⟨_, g5⟩ := hf 5 (by decide)
    obtain ⟨_, g6⟩ := hf 6 (by decide)
    obtain ⟨_, g7⟩ := hf 7 (by decide)
    obtain ⟨_, g8⟩ := hf 8 (by decide)
    obtain ⟨n0, e0, w0⟩ := int_open g0
    obtain ⟨n1, e1, w1⟩ := int_open g1
    obtain ⟨n2, e2, -⟩ := DataW.trod_bool Tryz.underlying4 g2
    obtain ⟨n3, e3, w3⟩ := int_open g3
    obtain ⟨n4, e4, w4⟩ := int_open g4
    obtain ⟨n5, e5, w5⟩ := text_open g5
    obtain ⟨n6, e6, w6⟩ := text_open g6
    obtain ⟨n7, e7, w7⟩ := int_open g7
    obtain ⟨n8, e8, w8⟩ := int_open g8
    simp [encT, encI] at e0 e1 e2 e3 e4 e5 e6 e7 e8
    subst e0 e1 e2 e3 e4 e5 e6 e7 e8
    exact ⟨⟨n0, n1, n2, n3, n4, n5, n6, n7, n8⟩, rfl, w0, w1, w3, w4, w5, w6, w7, w8⟩
/-- Raw arguments by value. -/
structure RawW (w : World) (v : Value) (ov sv lv : Value) (L : List Off) (M : List Seat) (n : Int) (R : List Req) : Prop where
  eq : v = .agg #[ov, sv, .int .i64 n, lv]
  offs : RowIn Off.cells w ov L
  offG : ∀ o ∈ L, GoodOff w o
  offN : L.length ≤ maxLen
  seats : RowIn Seat.cells w sv M
  seatG : ∀ s ∈ M, s.wf
  seatN : M.length ≤ maxLen
  n : (Lit.int .i64 n).wf = true
  reqs : RowIn encR w lv R
  reqG : ∀ r ∈ R, r.wf
  reqN : R.length ≤ maxLen
set_option maxRecDepth 100000 in
theorem open_raw {v : Value} {d : DataW H} {p : List MemPlace} {r : Go.Reach} {b0 : Nat} (h : DataW.Trod enc0 Tryz.prog w 0 (fun _ => true) held 32 v d p) (hv : Value.okWide Tryz.prog w r b0 32 v) : ∃ ov sv lv L M n R, RawW w v ov sv lv L M n R := by
  unfold Value.okWide at hv
  rw [Tryz.underlying32] at hv
  obtain ⟨cs, rfl, hsz, -⟩ := hv
  have hn : Tryz.prog.cellsOf 32 = 4 := by kernel_rfl
  rw [hn] at hsz
  obtain ⟨l⟩ := cs
  match l, hsz with
  | [c0, c1, c2, c3], _ =>
    obtain ⟨fuel, hf⟩ := h
    obtain ⟨fs, hu, ht, ho⟩ := raw_info
    obtain ⟨-, n, hf⟩ := fields_open hu ht ho (by kernel_rfl) (show DataW.trod enc0 Tryz.prog w 0 (fun _ => true) held fuel 32 [c0, c1, c2, c3] = some _ from hf)
    obtain ⟨_, g0⟩ := hf 0 (by decide)
    obtain ⟨_, g1⟩ := hf 1 (by decide)
    obtain ⟨_, g2⟩ := hf 2 (by decide)
    obtain ⟨_, g3⟩ := hf 3 (by decide)
    obtain ⟨L0, r0, q0, k0⟩ := slice_open (c := c0) (enc := Off.cells) (k := 5) Tryz.underlying28 (by kernel_rfl) (fun _ => rfl) (by decide) (fun _ _ _ h => off_open h) g0
    obtain ⟨L1, r1, q1, k1⟩ := slice_open (c := c1) (enc := Seat.cells) (k := 2) Tryz.underlying29 (by kernel_rfl) (fun _ => rfl) (by decide) (fun _ _ _ h => seat_open h) g1
    obtain ⟨n2, e2, w2⟩ := int_open g2
    obtain ⟨L3, r3, q3, k3⟩ := slice_open (c := c3) (enc := encR) (k := 9) Tryz.underlying30 (by kernel_rfl) (fun _ => rfl) (by decide) (fun _ _ _ h => req_open h) g3
    simp [encI] at e2
    subst e2
    exact ⟨c0, c1, c3, L0, L1, n2, L3, rfl, r0, q0, k0, r1, q1, k1, w2, r3, q3, k3⟩
end

set_option maxRecDepth 100000 in
theorem open_three {w : World} {v : Value} {r : Go.Reach} {b0 : Nat} (hv : Value.okWide Tryz.prog w r b0 27 v) : ∃ a b c : Int, v = .agg #[.int .i64 a, .int .i64 b, .int .i64 c] ∧ I64 a ∧ I64 b ∧ I64 c := by
  unfold Value.okWide at hv
  rw [Tryz.underlying27] at hv
  obtain ⟨cs, rfl, hsz, ts, hts, _, hat⟩ := hv
  have hc : Tryz.prog.cellTypes Tryz.prog.depth 27 = some [3, 3, 3] := by kernel_rfl
  have hn : Tryz.prog.cellsOf 27 = 3 := by kernel_rfl
  obtain rfl := Option.some.inj (hts.symm.trans hc)
  rw [hn] at hsz
  obtain ⟨l⟩ := cs
  match l, hsz with
  | [c0, c1, c2], _ =>
    obtain ⟨t0, r0, o0⟩ := hat 0 c0 rfl
    obtain rfl : 3 = t0 := Option.some.inj r0
    obtain ⟨x0, rfl, y0⟩ := cell_int Tryz.underlying3 o0
    obtain ⟨t1, r1, o1⟩ := hat 1 c1 rfl
    obtain rfl : 3 = t1 := Option.some.inj r1
    obtain ⟨x1, rfl, y1⟩ := cell_int Tryz.underlying3 o1
    obtain ⟨t2, r2, o2⟩ := hat 2 c2 rfl
    obtain rfl : 3 = t2 := Option.some.inj r2
    obtain ⟨x2, rfl, y2⟩ := cell_int Tryz.underlying3 o2
    exact ⟨x0, x1, x2, rfl, has_i64 y0, has_i64 y1, has_i64 y2⟩
end Go.Proofs.YteopjiedjnaeiaaGreat
/- The reference of layer 28: Order. -/
namespace Go.Proofs.YteopjiedjnaeiaaGreat
open Go Go.Proofs Go.RowKit Go.Maps Go.Sort Go.Lib

def reqO : Req := ⟨0, 0, false, 0, 0, ⟨#[]⟩, ⟨#[]⟩, 0, 0⟩
def elR (X : List Req) (i : Nat) : Req := (X[i]?).getD reqO
theorem elR_get {X : List Req} {i : Nat} (h : i < X.length) : X[i]? = some (elR X i) := by
  unfold elR
  rw [List.getElem?_eq_getElem h]; rfl
def swapD (X : List Req) (i : Nat) : List Req := (X.set (i + 1) (elR X i)).set i (elR X (i + 1))
/-- What stands at i goes down. -/
def insD : List Req → Nat → List Req
  | X, 0 => X
  | X, i + 1 => if befR (elR X (i + 1)) (elR X i) = true then insD (swapD X i) i else X
def ordP (l : List Req) (k : Nat) : List Req := (List.range k).foldl insD l
theorem ordP_succ (l : List Req) (k : Nat) : ordP l (k + 1) = insD (ordP l k) k := by unfold ordP; rw [List.range_succ, List.foldl_append]; rfl
theorem swapD_len (X : List Req) (i : Nat) : (swapD X i).length = X.length := by unfold swapD; rw [List.length_set, List.length_set]
theorem insD_len : ∀ (i : Nat) (X : List Req), (insD X i).length = X.length
  | 0, X => rfl
  | i + 1, X => by
    unfold insD
    split
    · rw [insD_len i, swapD_len]
    · rfl
theorem ordP_len (l : List Req) : ∀ k, (ordP l k).length = l.length
  | 0 => rfl
  | k + 1 => by rw [ordP_succ, insD_len, ordP_len l k]

/-- A row of requests under way. -/
structure OrdSt (W0 : World) (B g : Nat) (X : List Req) (w : World) : Prop where
  below : RowKit.Below B W0 w
  low : B ≤ g
  lt : g < w.heap.size
  row : ∀ i r, X[i]? = some r → w.rangeAt g (i * 9) r.cells.toList
  there : w.there g 0 (X.length * 9)
theorem OrdSt.next {W0 w w' : World} {B g : Nat} {X : List Req} (h : OrdSt W0 B g X w) (hb : RowKit.Below w.heap.size w w') (hB : B ≤ w.heap.size) : OrdSt W0 B g X w' where
  below := h.below.trans (hb.mono hB)
  low := h.low
  lt := Nat.lt_of_lt_of_le h.lt hb.size
  row i r hr := fun j u hu => by rw [hb.cell (p := ⟨g, i * 9 + j, none⟩) h.lt]; exact h.row i r hr j u hu
  there := fun j hj => by
    have e := hb.cell (p := ⟨g, 0 + j, none⟩) h.lt
    have f : w'.frozen? ⟨g, 0 + j, none⟩ = w.frozen? ⟨g, 0 + j, none⟩ := hb.frozen (p := ⟨g, 0 + j, none⟩) h.lt
    rw [e, f]
    exact h.there j hj
theorem req_cells_len (r : Req) : r.cells.toList.length = 9 := rfl
theorem grown_cells (g : Nat) : ∀ (vs : List Value) (o : Nat) (w : World), w.grownBy (w.setCells g o vs) (some g)
  | [], _, w => below_grows (Below.refl _ w)
  | v :: vs, o, w => grows_trans (Only.setCell w g o v 0) (grown_cells g vs (o + 1) (w.setCell ⟨g, o, none⟩ v))
theorem OrdSt.set {W0 w : World} {B g : Nat} {X : List Req} (h : OrdSt W0 B g X w) {p : Nat} (hB : B ≤ w.heap.size) (hp : p < X.length) (r : Req) : OrdSt W0 B g (X.set p r) (w.setCells g (p * 9) r.cells.toList) := by
  have ht : w.there g (p * 9) r.cells.toList.length := fun j hj => by
    rw [req_cells_len] at hj
    have := h.there (p * 9 + j) (by omega)
    rwa [Nat.zero_add] at this
  have hg := grown_cells g r.cells.toList (p * 9) w
  refine ⟨?_, h.low, Nat.lt_of_lt_of_le h.lt hg.size, fun i x hx => ?_, fun j hj => ?_⟩
  · exact h.below.grown hg hB (fun q hq => by obtain rfl := Option.some.inj hq; exact h.low)
  · by_cases hip : i = p
    · subst hip
      rw [List.getElem?_set_self hp] at hx
      obtain rfl := Option.some.inj hx
      exact World.rangeAt_setCells_same w g (i * 9) _ ht
    · rw [List.getElem?_set_ne (Ne.symm hip)] at hx
      refine World.rangeAt_setCells_apart (h.row i x hx) g (p * 9) _ (.inr ?_)
      rw [req_cells_len, req_cells_len]
      omega
  · rw [List.length_set] at hj
    refine ⟨?_, ?_⟩
    · by_cases hin : p * 9 ≤ j ∧ j < p * 9 + 9
      · have e := World.cell?_setCells_in g r.cells.toList (p * 9) w (fun i hi => (ht i hi).1) (j - p * 9) (by rw [req_cells_len]; omega)
        rw [show 0 + j = p * 9 + (j - p * 9) by omega, e]
        rfl
      · rw [World.cell?_setCells_out g r.cells.toList (p * 9) w ⟨g, 0 + j, none⟩ (fun _ _ => by
          rw [req_cells_len]
          show 0 + j < p * 9 ∨ p * 9 + 9 ≤ 0 + j
          omega)]
        exact (h.there j hj).1
    · rw [World.frozen?_setCells]
      exact (h.there j hj).2
/-- The row, read back. -/
theorem reqs_of {w : World} {g : Nat} : ∀ (X : List Req) (o : Nat), (∀ i r, X[i]? = some r → w.rangeAt g (o + i * 9) r.cells.toList) → ∀ j u, (reqCells X)[j]? = some u → w.cell? ⟨g, o + j, none⟩ = some u
  | [], _, _, j, u, hu => by simp [reqCells] at hu
  | r :: X, o, h, j, u, hu => by
    rw [show reqCells (r :: X) = r.cells.toList ++ reqCells X from rfl] at hu
    by_cases hj : j < 9
    · rw [List.getElem?_append_left (by rw [req_cells_len]; exact hj)] at hu
      have := h 0 r rfl j u hu
      rwa [Nat.zero_mul, Nat.add_zero] at this
    · rw [List.getElem?_append_right (by rw [req_cells_len]; omega), req_cells_len] at hu
      have := reqs_of X (o + 9) (fun i x hx => by
        have := h (i + 1) x hx
        rwa [show o + (i + 1) * 9 = o + 9 + i * 9 by omega] at this) (j - 9) u hu
      rwa [show o + 9 + (j - 9) = o + j by omega] at this
theorem OrdSt.reqs {W0 w : World} {B g c : Nat} {X : List Req} (h : OrdSt W0 B g X w) (hc : X.length ≤ c) : ReqsIn w (.slice (some ⟨g, 0, none⟩) X.length c) X :=
  .inr ⟨g, 0, c, rfl, hc, h.lt, fun j u hu => reqs_of X 0 (fun i r hr => by rw [Nat.zero_add]; exact h.row i r hr) j u hu⟩
/-- A row of the call's own. -/
theorem OrdSt.own {W0 w : World} {B g c : Nat} {X : List Req} (hb : RowKit.Below B W0 w) (h : w.ownsRow B 39 9 (.slice (some ⟨g, 0, none⟩) X.length c) X.length (reqCells X)) : OrdSt W0 B g X w := by
  have hr := reqsIn_own h
  have hlo := own_lo h (q := g) rfl
  have hx : ∃ cur, w.heap[g]? = some (.cells cur 39 (0, 0)) ∧ X.length * 9 ≤ cur.size := by
    rcases h.2 with ⟨e, _⟩ | ⟨g', cap, cur, e, _, hg, h2, _, h4, _⟩
    · cases e
    · injection e with e1 _ e3
      injection e1 with e1
      injection e1 with e1
      subst e1
      exact ⟨cur, hg, by rw [h4]; exact Nat.mul_le_mul h2 (Nat.le_refl 9)⟩
  obtain ⟨cur, hg, hsz⟩ := hx
  refine ⟨hb, hlo.1, hlo.2, fun i r hi => ?_, fun j hj => ?_⟩
  · obtain ⟨b, o, c', e, _, _, hx⟩ := hr.at_ (List.length_pos_of_mem (List.mem_of_getElem? hi))
    injection e with e1
    injection e1 with e1
    injection e1 with e1 e2
    subst e1 e2
    have := hx i r hi
    rw [Nat.zero_add] at this
    intro j u hu
    exact this j u (by simpa using hu)
  · refine ⟨?_, Lib.frozen_of_heap hg _⟩
    rw [Lib.cell_of_heap hg, Nat.zero_add, Array.getElem?_eq_getElem (by omega)]
    rfl
end Go.Proofs.YteopjiedjnaeiaaGreat
namespace Go.Proofs.YteopjiedjnaeiaaGreat
open Go Go.Proofs Go.RowKit Go.Maps Go.Sort Go.Lib

theorem reqT : RowT Tryz.prog encR 9 39 30 where
  len _ := rfl
  one r u hu := by
    simp [encR, Req.cells] at hu
    rcases hu with rfl | rfl | rfl | rfl | rfl | rfl | rfl | rfl | rfl <;> rfl
  pos := by decide
  und := Tryz.underlying30
  info := by
    obtain ⟨i0, hi, h1, h2, h3⟩ := info_parts req_info
    exact ⟨i0, _, hi, h1, h2, rfl, by omega⟩
/-- Block b, from B on, holds o. -/
def Laid (B : Nat) (w : World) (f : Nat → Value) (o : Obj) (u : Value) : Prop := ∃ b, u = f b ∧ B ≤ b ∧ w.heap[b]? = some o
theorem ReqsIn.row {w : World} {v : Value} {L : List Req} (h : ReqsIn w v L) : RowIn encR w v L := by
  rcases h with ⟨rfl, rfl⟩ | ⟨b, o, c, rfl, h2, h3, h4⟩
  · exact RowIn.nil _ _
  · exact ⟨_, c, rfl, h2, fun e => (by cases e), fun _ => ⟨b, o, rfl, h3, h4⟩⟩
section
variable {B : Nat} {w wn : World} {f : Nat → Value} {o : Obj} {u v : Value} {ro : Option Nat}
theorem Laid.grown (h : Laid B w f o u) (hg : w.grownBy wn ro) (hne : ∀ q, ro = some q → w.heap[q]? ≠ some o) : Laid B wn f o u := by
  obtain ⟨b, rfl, hB, hb⟩ := h
  exact ⟨b, rfl, hB, (hg.block b (lt_of_heap hb) (fun e => hne b e.symm hb)).trans hb⟩
theorem Laid.below (h : Laid B w f o u) (hb : RowKit.Below w.heap.size w wn) : Laid B wn f o u := h.grown (below_grows (row := none) hb) (fun _ e => by cases e)
theorem Laid.new (w : World) (f : Nat → Value) (cs : Array Value) (t : TypeId) (hB : B ≤ w.heap.size) : Laid B (w.alloc (.cells cs t)) f (.cells cs t (0, 0)) (f w.heap.size) := ⟨_, rfl, hB, heap_alloc_new w _⟩
theorem Laid.own {e : TypeId} {k : Nat} (h : Laid B w (fun b => .slice (some ⟨b, 0, none⟩) 0 0) (.cells #[] e (0, 0)) u) : w.ownsRow B e k u 0 [] := by
  obtain ⟨b, rfl, hB, hb⟩ := h
  exact ⟨by simp, .inr ⟨b, 0, #[], rfl, hB, hb, Nat.le_refl _, Nat.zero_le _, by simp, by simp⟩⟩
theorem Laid.row {α : Type} {enc : α → List Value} {e : TypeId} {cs : Array Value} {n : Nat} (h : Laid B w (fun b => .slice (some ⟨b, 0, none⟩) n n) (.cells cs e (0, 0)) u) (L : List α) (hcs : cs.toList = flatE enc L) (hn : L.length = n) : RowIn enc w u L := by
  subst hn
  obtain ⟨b, rfl, hB, hb⟩ := h
  refine ⟨_, _, rfl, Nat.le_refl _, fun hn => (by cases hn), fun _ => ⟨_, _, rfl, lt_of_heap hb, fun j u hj => ?_⟩⟩
  rw [Nat.zero_add, Lib.cell_of_heap hb]
  rw [← hcs] at hj
  simpa using hj
/-- The empty row's block, and another one. -/
theorem Laid.apart {e : TypeId} (h : Laid B w (fun b => .slice (some ⟨b, 0, none⟩) 0 0) (.cells #[] e (0, 0)) u) (hne : o ≠ .cells #[] e (0, 0)) : ∀ q, u.ownBlock = some q → w.heap[q]? ≠ some o := by
  obtain ⟨b, rfl, hB, hb⟩ := h
  intro q hq
  obtain rfl := Option.some.inj hq
  rw [hb]
  exact fun e => hne (Option.some.inj e).symm
theorem own_apart {base k n : Nat} {e t : TypeId} {xs : List Value} {cs : Array Value} (h : w.ownsRow base e k v n xs) (hne : t ≠ e) : ∀ q, v.ownBlock = some q → w.heap[q]? ≠ some (.cells cs t (0, 0)) := by
  rcases h.2 with ⟨rfl, _⟩ | ⟨g, cap, cur, rfl, _, hg, _⟩
  · intro q hq; simp [Value.ownBlock] at hq
  · intro q hq
    obtain rfl : g = q := by simpa [Value.ownBlock] using hq
    rw [hg]
    intro e
    injection e with e
    injection e with _ e
    exact hne e.symm
theorem own_apart' {base k n b : Nat} {e t : TypeId} {xs : List Value} {cs : Array Value} (h : w.ownsRow base e k v n xs) (hne : t ≠ e) (hb : w.heap[b]? = some (.cells cs t (0, 0))) : v.ownBlock = none ∨ v.ownBlock ≠ some b := .inr fun e => own_apart h hne b e hb
theorem own_below {base k n : Nat} {e : TypeId} {xs : List Value} (h : w.ownsRow base e k v n xs) (hb : RowKit.Below w.heap.size w wn) : wn.ownsRow base e k v n xs := h.kept (row := none) (below_grows hb) (by cases v.ownBlock <;> simp)
theorem setRow_grown {b : Nat} {old : Array Value} {t : TypeId} {fz : Nat × Nat} (_h : w.heap[b]? = some (.cells old t fz)) (cs : Array Value) : w.grownBy (w.setRow b cs) (some b) :=
  ⟨rfl, rfl, rfl, by simp [World.setRow], fun k _ hk => by
    have : k ≠ b := fun e => hk (by rw [e])
    simp [World.setRow, Array.getElem?_modify, Ne.symm this]⟩
/-- Rows of seats, and a block that holds no seat. -/
def NoInt (w : World) (b : Nat) : Prop := ∀ i n, w.cell? ⟨b, i, none⟩ ≠ some (.int .i64 n)
theorem NoInt.deal {b : Nat} {p q : Option Addr} {n m c e : Nat} {t : TypeId} (h : w.heap[b]? = some (.cells #[.slice p n c, .slice q m e] t (0, 0))) : NoInt w b := fun i n => by
  rw [Lib.cell_of_heap h]
  match i with
  | 0 => simp
  | 1 => simp
  | i + 2 => simp
theorem RowIn.grownSeat {L : List Seat} (h : RowIn Seat.cells w v L) (hg : w.grownBy wn ro) (hne : ∀ q, ro = some q → NoInt w q) : RowIn Seat.cells wn v L := by
  obtain ⟨p, c, rfl, hc, hz, hr⟩ := h
  refine ⟨p, c, rfl, hc, hz, fun hl => ?_⟩
  obtain ⟨b, o, rfl, hb, hx⟩ := hr hl
  have hd : some b ≠ ro := fun e => by
    obtain ⟨x, L', rfl⟩ := List.exists_cons_of_ne_nil (List.ne_nil_of_length_pos hl)
    exact hne b e.symm (o + 0) x.student (hx 0 _ rfl)
  exact ⟨b, o, rfl, Nat.lt_of_lt_of_le hb hg.size, fun j u hj => hg.cell (hx j u hj) hd⟩
theorem DealIn.grown {d : Deal} (h : DealIn w v d) (hg : w.grownBy wn ro) (hne : ∀ q, ro = some q → NoInt w q) : DealIn wn v d := by
  obtain ⟨⟨p, c, q, e, h1, h2, h3⟩, h4, h5⟩ := h
  exact ⟨⟨p, c, q, e, h1, h2.grownSeat hg hne, h3.grownSeat hg hne⟩, h4, h5⟩
theorem draw_apart {d n c : Nat} {A : Option Addr} {t : TypeId} {cs : Array Value} (h : DrawS d A n c w) (ht : t ≠ 83) : ∀ q, some d = some q → w.heap[q]? ≠ some (.cells cs t (0, 0)) := by
  rintro q hq
  obtain rfl := Option.some.inj hq
  obtain ⟨k, _, hda⟩ := h
  unfold DrawAt at hda
  rw [hda]
  intro e
  injection e with e
  injection e with _ e
  exact ht e.symm
end
section
variable {P : Program} {ops : Array Oper} {Q : Exit → Act → World → Prop} {S : World → Prop}
theorem par_append {α : Type} {enc : α → List Value} {k : Nat} {e t : TypeId} (R : RowT P enc k e t) {i : Nat} {K : Act → World → Prop} {a : Act} {w : World} (oi : Oper) (hi : ops[i]? = some oi) (hw : Region.wanted oi (yielded ops a.tmps) = true) (s x : Operand) (ho : oi.op = .call { callee := .builtin .append, args := #[s, x], argTypes := #[t, t] })
    (base : Nat) (v xv : Value) (X Y : List α) (hs : a.eval s = v) (hxv : a.eval x = xv) (hown : w.ownsRow base e k v X.length (flatE enc X)) (hx : RowIn enc w xv Y) (hl : X.length + Y.length ≤ 1000000) (hb : base ≤ w.heap.size)
    (h : ∀ v' w', AppT enc k e w base v X Y v' w' → K (a.put oi.dst v') w') : wpOp P ops Q i K a w :=
  par_op oi hi hw (wp_append_row R s x ho base v xv X Y hs hxv hown hx hl hb h)
theorem par_store_row {i : Nat} {K : Act → World → Prop} {a : Act} {w : World} (oi : Oper) (hi : ops[i]? = some oi) (hw : Region.wanted oi (yielded ops a.tmps) = true) (ty : TypeId) (x y : Operand) (ho : oi.op = .store ty x y)
    (g : Nat) (cells : Array Value) (hx : a.eval x = .pointer (some ⟨g, 0, none⟩)) (hy : a.eval y = .agg cells) (t : TypeId) (old : Array Value) (hg : w.heap[g]? = some (.cells old t (0, 0))) (hi2 : (P.info? ty).map (·.size) = some cells.size)
    (hold : old.size = cells.size) (h1 : cells.all (·.oneCell') = true) (h : K (a.put oi.dst undef) (w.setRow g cells)) : wpOp P ops Q i K a w :=
  par_op oi hi hw (wp_store_row ty x y ho g cells hx hy t old hg hi2 hold h1 h)
theorem par_take_row {i : Nat} {σ : List Nat} {a : Act} {K : Act → Prop} (oi : Oper) (hi : ops[i]? = some oi) (hw : Region.wanted oi (yielded ops a.tmps) = true) (ty : TypeId) (x : Operand) (ho : oi.op = .load ty x)
    (b o : Nat) (hx : a.eval x = .pointer (some ⟨b, o, none⟩)) (cs : List Value) (d : TypeDesc) (hS : ∀ w, S w → w.rangeAt b o cs) (hu : P.underlying ty = some d) (hd : d.isRow = true) (hi2 : (P.info? ty).map (·.size) = some cs.length)
    (h : wpTakes P ops S σ (a.put oi.dst (.agg cs.toArray)) K) : wpTakes P ops S (i :: σ) a K := ⟨oi, _, hi, yieldsIf_load_mid hw ty x ho b o hx cs d hS hu hd hi2, h⟩
theorem par_skip {i : Nat} {σ : List Nat} {a : Act} {K : Act → Prop} (oi : Oper) (hi : ops[i]? = some oi) (hw : Region.wanted oi (yielded ops a.tmps) = false) (h : wpTakes P ops S σ (a.put oi.dst undef) K) : wpTakes P ops S (i :: σ) a K := ⟨oi, undef, hi, .inr ⟨hw, rfl⟩, h⟩
end
end Go.Proofs.YteopjiedjnaeiaaGreat
