/- The deal of requests: what is active, in its order. -/
import Derived.Test.YteopjiedjnaeiaaGreatDgah
import Derived.Test.YteopjiedjnaeiaaGreatDgab
import Derived.Test.YteopjiedjnaeiaaGreatDgaa
import Derived.Test.YteopjiedjnaeiaaGreatDgac
import Derived.Deep.RegionHeld3
import Derived.Test.YteopjiedjnaeiaaGreatDgaf
import Derived.Test.YteopjiedjnaeiaaGreatDgae
import Derived.Test.YteopjiedjnaeiaaGreatDgai
/- request.Digest. -/
/- request.Encode's closure: it writes integers. -/
namespace Go.Proofs.YteopjiedjnaeiaaGreat
open Go Go.Proofs Go.RowKit Go.Sort Go.Lib
attribute [local go_sem] Req.cells

def wInts (l : List Int) : List UInt8 := l.flatMap wInt

theorem wInts_snoc (l : List Int) (n : Int) : wInts (l ++ [n]) = wInts l ++ wInt n := by simp [wInts]

theorem wInts_take (l : List Int) (k : Nat) (h : k < l.length) : wInts (l.take (k + 1)) = wInts (l.take k) ++ wInt (l.getD k 0) := by
  rw [List.take_succ_eq_append_getElem h, wInts_snoc, List.getD_eq_getElem?_getD, List.getElem?_eq_getElem h]; rfl

theorem wInts_len (l : List Int) (h : ∀ n ∈ l, I64 n) : (wInts l).length ≤ 22 * l.length := by
  induction l with
  | nil => simp [wInts]
  | cons a l ih =>
    have h1 := wInt_len a (h a (by simp)).1 (h a (by simp)).2
    have h2 := ih (fun n hn => h n (by simp [hn]))
    simp only [wInts, List.flatMap_cons, List.length_append, List.length_cons] at *
    omega

theorem getD_mem {l : List Int} {k : Nat} (h : k < l.length) : l.getD k 0 ∈ l := by
  rw [List.getD_eq_getElem?_getD, List.getElem?_eq_getElem h]; simp


/-- Block b is a row of ints. -/
def IntRow (w : World) (b : Nat) (l : List Int) : Prop := w.heap[b]? = some (.cells (l.map (Value.int .i64)).toArray 3 (0, 0))
theorem IntRow.cell {w : World} {b : Nat} {l : List Int} (h : IntRow w b l) {k : Nat} (hk : k < l.length) : w.cell? ⟨b, k, none⟩ = some (.int .i64 (l.getD k 0)) := by
  unfold IntRow at h
  rw [Lib.cell_of_heap h]
  simp [List.getD_eq_getElem?_getD, List.getElem?_eq_getElem hk]
theorem IntRow.kept {w w' : World} {b c : Nat} {l : List Int} (h : IntRow w b l) (hk : Kept c w w') (hb : b ≠ c) : IntRow w' b l := kept_cell hk h hb (by decide)
theorem lt_of_heapD {w : World} {b : Nat} {o : Obj} (h : w.heap[b]? = some o) : b < w.heap.size := by
  rcases Nat.lt_or_ge b w.heap.size with h' | h'
  · exact h'
  · rw [Array.getElem?_eq_none h'] at h; cases h
theorem IntRow.below {w w' : World} {b : Nat} {l : List Int} (h : IntRow w b l) (hk : Below w.heap.size w w') : IntRow w' b l := by
  unfold IntRow at *
  rw [hk.block b (lt_of_heapD h)]; exact h

theorem IntRow.new (w : World) (l : List Int) : IntRow (w.alloc (.cells (l.map (Value.int .i64)).toArray 3)) w.heap.size l := heap_alloc_new w _

theorem kept_trans {b : Nat} {w w' w'' : World} (h : Kept b w w') (h' : Kept b w' w'') : Kept b w w'' := fun k o hk h1 h2 => h' k o (h k o hk h1 h2) h1 h2













































end Go.Proofs.YteopjiedjnaeiaaGreat
/- request.Encode, walked. -/
namespace Go.Proofs.YteopjiedjnaeiaaGreat
open Go Go.Proofs Go.RowKit Go.Sort Go.Lib
attribute [local go_sem] Req.cells

def Req.ints1 (r : Req) : List Int := [r.server, r.seq, truthN r.cancel, r.student, r.term]
def Req.ints2 (r : Req) : List Int := [r.priority, r.day]
/-- A request, as it is written. -/
def encR1 (r : Req) : List UInt8 := wInts r.ints1 ++ (wText r.code ++ wText r.give) ++ wInts r.ints2
def encL (L : List Req) : List UInt8 := wInt L.length ++ L.flatMap encR1
theorem req_ints1 {r : Req} (h : r.Ok) : ∀ n ∈ r.ints1, I64 n := by
  have ht : I64 (truthN r.cancel) := by unfold truthN I64; split <;> omega
  simp only [Req.ints1, List.mem_cons, List.not_mem_nil, or_false]
  rintro n (rfl | rfl | rfl | rfl | rfl)
  · exact h.server
  · exact h.seq
  · exact ht
  · exact h.student
  · exact h.term
theorem req_ints2 {r : Req} (h : r.Ok) : ∀ n ∈ r.ints2, I64 n := by
  simp only [Req.ints2, List.mem_cons, List.not_mem_nil, or_false]
  rintro n (rfl | rfl)
  · exact h.priority
  · exact h.day
theorem encR1_len (r : Req) (h : r.Ok) (hz : r.code.size ≤ 100000 ∧ r.give.size ≤ 100000) : (encR1 r).length ≤ 200300 := by
  have h1 := wInts_len r.ints1 (req_ints1 h)
  have h2 := wInts_len r.ints2 (req_ints2 h)
  have h3 := wText_len r.code (by omega)
  have h4 := wText_len r.give (by omega)
  have e1 : r.ints1.length = 5 := rfl
  have e2 : r.ints2.length = 2 := rfl
  simp only [encR1, List.length_append]
  omega
theorem encs_len (L : List Req) (h : ∀ r ∈ L, r.Ok) (hz : ∀ r ∈ L, r.code.size ≤ 100000 ∧ r.give.size ≤ 100000) : (L.flatMap encR1).length ≤ 200300 * L.length := by
  induction L with
  | nil => simp
  | cons r L ih =>
    have h1 := encR1_len r (h r (by simp)) (hz r (by simp))
    have h2 := ih (fun x hx => h x (by simp [hx])) (fun x hx => hz x (by simp [hx]))
    simp only [List.flatMap_cons, List.length_append, List.length_cons]
    omega
























































































































end Go.Proofs.YteopjiedjnaeiaaGreat
namespace Go.Proofs.YteopjiedjnaeiaaGreat
open Go Go.Proofs Go.RowKit Go.Sort Go.Lib










































end Go.Proofs.YteopjiedjnaeiaaGreat
/- What a deal keeps: permitted, whole, and first come. -/
namespace Go.Proofs.YteopjiedjnaeiaaGreat
open Go Go.Proofs Go.RowKit Go.Sort Go.Lib

theorem snoc_ind {α : Type} {p : List α → Prop} (h0 : p []) (h1 : ∀ a x, p a → p (a ++ [x])) : ∀ l, p l := fun l => by
  have h : ∀ (n : Nat) (l : List α), l.length = n → p l := fun n => by
    induction n with
    | zero => intro l hl; rw [List.eq_nil_of_length_eq_zero hl]; exact h0
    | succ n ih =>
      intro l hl
      rcases snoc_cases l with rfl | ⟨a, x, rfl⟩
      · exact h0
      · simp only [List.length_append, List.length_singleton] at hl
        exact h1 a x (ih a (by omega))
  exact h _ l rfl
section
variable {L : List Off} {met : List Seat} {most : Int}
theorem others_sub (l : List Seat) (r : Req) : (othersD l r).Sublist l := by
  unfold othersD
  split
  · exact List.Sublist.refl _
  · exact List.filter_sublist
theorem step_len (d : Deal) (r : Req) : (stepD L met most d r).seats.length ≤ d.seats.length + 1 ∧ (stepD L met most d r).waits.length ≤ d.waits.length + 1 := by
  unfold stepD
  have := (others_sub d.seats r).length_le
  split
  · simp only [List.length_append, List.length_singleton]; omega
  · split
    · omega
    · simp only [List.length_append, List.length_singleton]; omega
theorem deal_len (O : List Req) : (dealP L met most O).seats.length ≤ O.length ∧ (dealP L met most O).waits.length ≤ O.length := by
  refine snoc_ind (p := fun O => (dealP L met most O).seats.length ≤ O.length ∧ (dealP L met most O).waits.length ≤ O.length) ?_ (fun a x ih => ?_) O
  · exact ⟨Nat.le_refl _, Nat.le_refl _⟩
  · simp only [dealP_snoc]
    have := step_len (L := L) (met := met) (most := most) (dealP L met most a) x
    simp only [List.length_append, List.length_singleton]; omega
theorem deal_nodup (O : List Req) : (dealP L met most O).seats.Nodup := by
  refine snoc_ind (p := fun O => (dealP L met most O).seats.Nodup) List.nodup_nil (fun a x ih => ?_) O
  simp only [dealP_snoc]
  unfold stepD
  split
  · rename_i h
    rw [List.nodup_append]
    exact ⟨ih.sublist (others_sub _ _), by simp, fun y hy z hz e => by
      simp at hz; subst hz; subst e; exact (fitsP_zero.1 h.2).2.1 hy⟩
  · split <;> exact ih
theorem deal_ok (hc : Calm L) (O : List Req) : O.length ≤ 1000 → OkS L met most (dealP L met most O).seats := by
  refine snoc_ind (p := fun O => O.length ≤ 1000 → OkS L met most (dealP L met most O).seats) ?_ (fun a x ih => ?_) O
  · exact fun _ => okS_nil _ _ _
  · intro hl
    simp only [List.length_append, List.length_singleton] at hl
    have ih := ih (by omega)
    have hn := (deal_len (L := L) (met := met) (most := most) a).1
    simp only [dealP_snoc]
    unfold stepD
    split
    · rename_i h
      exact okS_snoc.2 ⟨okS_sub hc _ _ _ rfl (by omega) (others_sub _ _) ih, h.2⟩
    · split <;> exact ih

/-! ### a permitted list -/
theorem takenF_snoc (a : List Seat) (x : Seat) (c : ByteArray) : takenF (a ++ [x]) c = takenF a c + if x.code.toList = c.toList then 1 else 0 := by
  unfold takenF
  rw [List.countP_append]
  congr 1
  by_cases h : x.code.toList = c.toList <;> simp [h]
theorem findO_code {c : ByteArray} {o : Off} (h : findO L c = some o) : o.code = c := by
  unfold findO at h
  have := List.find?_some h
  exact req_ba.1 (by simpa using this)
theorem okS_taken {l : List Seat} (c : ByteArray) (h0 : 0 ≤ (getO L c).places) : OkS L met most l → (takenF l c : Int) ≤ (getO L c).places := by
  refine snoc_ind (p := fun l => OkS L met most l → (takenF l c : Int) ≤ (getO L c).places) (fun _ => by simpa [takenF] using h0) (fun a x ih h => ?_) l
  rw [okS_snoc] at h
  rw [takenF_snoc]
  by_cases e : x.code.toList = c.toList
  · rw [if_pos e]
    obtain rfl := req_ba.1 e
    have := (fitsP_zero.1 h.2).2.2.2.1
    omega
  · rw [if_neg e]
    have := ih h.1
    omega
theorem sumC_snoc (a : List Seat) (x : Seat) (st : Int) : sumC L (a ++ [x]) st = sumC L a st + if x.student = st then (getO L x.code).credits else 0 := by
  unfold sumC
  rw [List.filter_append, List.map_append, List.sum_append]
  by_cases e : x.student = st <;> simp [e]
theorem okS_sum {l : List Seat} (hc : Calm L) (st : Int) : l.length ≤ 1000 → OkS L met most l → (∃ x ∈ l, x.student = st) → sumC L l st ≤ most := by
  refine snoc_ind (p := fun l => l.length ≤ 1000 → OkS L met most l → (∃ x ∈ l, x.student = st) → sumC L l st ≤ most) (fun _ _ ⟨_, hx, _⟩ => by cases hx) (fun a x ih hl h hx => ?_) l
  simp only [List.length_append, List.length_singleton] at hl
  rw [okS_snoc] at h
  rw [sumC_snoc]
  by_cases e : x.student = st
  · rw [if_pos e]
    have h6 := (fitsP_zero.1 h.2).2.2.2.2.2
    have hg := getO_calm hc x.code
    rw [creditsF_eq hc _ _ _ hg.1 (by omega), e] at h6
    omega
  · rw [if_neg e]
    obtain ⟨y, hy, hys⟩ := hx
    rw [List.mem_append] at hy
    have hya : y ∈ a := hy.resolve_right fun h => by simp at h; subst h; exact e hys
    have := ih (by omega) h.1 ⟨y, hya, hys⟩
    omega
theorem okS_mem {l : List Seat} (h : OkS L met most l) {x : Seat} (hx : x ∈ l) : (findO L x.code).isSome = true ∧ x ∈ met := by
  obtain ⟨k, hk, rfl⟩ := List.mem_iff_getElem.1 hx
  have := fitsP_zero.1 (h k _ (List.getElem?_eq_getElem hk))
  exact ⟨this.1, this.2.2.1⟩
theorem clashO_comm (a b : Off) : clashO a b = clashO b a := by
  rw [Bool.eq_iff_iff]
  simp only [clashO, List.any_eq_true, decide_eq_true_eq]
  exact ⟨fun ⟨n, h, h'⟩ => ⟨n, h', h⟩, fun ⟨n, h, h'⟩ => ⟨n, h', h⟩⟩
/-- Two seats of a student are of different courses that do not meet. -/
def Apart (L : List Off) (x y : Seat) : Prop := x.student = y.student → x.code ≠ y.code ∧ clashO (getO L x.code) (getO L y.code) = false
theorem okS_apart {l : List Seat} : OkS L met most l → l.Pairwise (Apart L) := by
  refine snoc_ind (p := fun l => OkS L met most l → l.Pairwise (Apart L)) (fun _ => List.Pairwise.nil) (fun a x ih h => ?_) l
  rw [okS_snoc] at h
  rw [List.pairwise_append]
  refine ⟨ih h.1, List.pairwise_singleton _ _, fun y hy z hz => ?_⟩
  simp at hz
  subst hz
  obtain ⟨_, h2, _, _, h5, _⟩ := fitsP_zero.1 h.2
  intro e
  refine ⟨fun e2 => h2 ?_, ?_⟩
  · have : y = z := by cases y; cases z; simp_all
    rwa [← this]
  · unfold clashF at h5
    rw [List.any_eq_false] at h5
    have := h5 y hy
    rw [clashO_comm]
    simpa [e] using this
/-- The courses of a student. -/
def codesOf (l : List Seat) (st : Int) : List ByteArray := (l.filter fun x => decide (x.student = st)).map Seat.code
theorem codes_apart {l : List Seat} (h : OkS L met most l) (st : Int) : (codesOf l st).Pairwise fun a b => a ≠ b ∧ clashO (getO L a) (getO L b) = false := by
  unfold codesOf
  rw [List.pairwise_map]
  refine List.Pairwise.imp_of_mem ?_ ((okS_apart h).filter _)
  intro a b ha hb hab
  rw [List.mem_filter] at ha hb
  have h1 := of_decide_eq_true ha.2
  have h2 := of_decide_eq_true hb.2
  exact hab (h1.trans h2.symm)
theorem codes_sum (l : List Seat) (st : Int) : ((codesOf l st).map fun c => (getO L c).credits).sum = sumC L l st := by
  unfold codesOf sumC
  rw [List.map_map]; rfl
theorem codes_mem {l : List Seat} {st : Int} {c : ByteArray} : c ∈ codesOf l st ↔ (⟨st, c⟩ : Seat) ∈ l := by
  unfold codesOf
  rw [List.mem_map]
  constructor
  · rintro ⟨x, hx, rfl⟩
    rw [List.mem_filter] at hx
    have := of_decide_eq_true hx.2
    have e : (⟨st, x.code⟩ : Seat) = x := by cases x; simp_all
    rw [e]; exact hx.1
  · intro h
    exact ⟨_, List.mem_filter.2 ⟨h, by simp⟩, rfl⟩

/-! ### nobody gives anything -/
theorem others_none {l : List Seat} {r : Req} (h : r.give.size = 0) : othersD l r = l := if_pos h
theorem fine_none {l : List Seat} {r : Req} (h : r.give.size = 0) : fineD l r = true := by unfold fineD; rw [decide_eq_true h]; rfl
theorem step_none {d : Deal} {r : Req} (h : r.give.size = 0) : stepD L met most d r = if fitsP L met most d.seats (seatOf r) = 0 then ⟨d.seats ++ [seatOf r], d.waits⟩ else if seatOf r ∈ d.waits then d else ⟨d.seats, d.waits ++ [seatOf r]⟩ := by
  unfold stepD
  rw [others_none h, fine_none h]
  simp
theorem deal_all (O : List Req) (h : ∀ r ∈ O, r.give.size = 0) : ∀ r ∈ O, seatOf r ∈ (dealP L met most O).seats ∨ seatOf r ∈ (dealP L met most O).waits := by
  revert h
  refine snoc_ind (p := fun O => (∀ r ∈ O, r.give.size = 0) → ∀ r ∈ O, seatOf r ∈ (dealP L met most O).seats ∨ seatOf r ∈ (dealP L met most O).waits) (fun _ r hr => by cases hr) (fun a x ih h r hr => ?_) O
  have ih := ih fun r hr => h r (List.mem_append_left _ hr)
  rw [dealP_snoc, step_none (h x (by simp))]
  rw [List.mem_append, List.mem_singleton] at hr
  split
  · rcases hr with hr | rfl
    · exact (ih r hr).imp (fun h => List.mem_append_left _ h) id
    · exact .inl (by simp)
  · split
    · rcases hr with hr | rfl
      · exact ih r hr
      · rename_i h2; exact .inr h2
    · rcases hr with hr | rfl
      · exact (ih r hr).imp id (fun h => List.mem_append_left _ h)
      · exact .inr (by simp)
theorem deal_from (O O' : List Req) : dealP L met most (O ++ O') = O'.foldl (stepD L met most) (dealP L met most O) := by
  unfold dealP; rw [List.foldl_append]
theorem deal_grows (d : Deal) : ∀ (O : List Req), (∀ r ∈ O, r.give.size = 0) → ∃ more, (O.foldl (stepD L met most) d).seats = d.seats ++ more := by
  intro O
  refine snoc_ind (p := fun O => (∀ r ∈ O, r.give.size = 0) → ∃ more, (O.foldl (stepD L met most) d).seats = d.seats ++ more) (fun _ => ⟨[], by simp⟩) (fun a x ih h => ?_) O
  obtain ⟨m, hm⟩ := ih fun r hr => h r (List.mem_append_left _ hr)
  rw [List.foldl_append]
  show ∃ more, (stepD L met most (a.foldl (stepD L met most) d) x).seats = _
  rw [step_none (h x (by simp))]
  split
  · exact ⟨m ++ [seatOf x], by simp [hm]⟩
  · split
    · exact ⟨m, hm⟩
    · exact ⟨m, hm⟩
/-- Who waits did not fit, and does not fit in the end. -/
theorem waits_unfit (hc : Calm L) (O : List Req) (h : ∀ r ∈ O, r.give.size = 0) (hn : O.length ≤ 1000) {s : Seat} (hs : s ∈ (dealP L met most O).waits) : fitsP L met most (dealP L met most O).seats s ≠ 0 := by
  revert s
  revert h hn
  refine snoc_ind (p := fun O => (∀ r ∈ O, r.give.size = 0) → O.length ≤ 1000 → ∀ s, s ∈ (dealP L met most O).waits → fitsP L met most (dealP L met most O).seats s ≠ 0) (fun _ _ s hs => by cases hs) (fun a x ih h hn s hs => ?_) O
  simp only [List.length_append, List.length_singleton] at hn
  have ih := ih (fun r hr => h r (List.mem_append_left _ hr)) (by omega)
  have hl := (deal_len (L := L) (met := met) (most := most) a).1
  rw [dealP_snoc, step_none (h x (by simp))] at hs ⊢
  split at hs
  · rename_i h1
    rw [if_pos h1]
    intro e
    exact ih s hs (fits_sub hc (List.sublist_append_left _ _) (by simp; omega) e)
  · rename_i h1
    rw [if_neg h1]
    split at hs
    · rename_i h2
      rw [if_pos h2]; exact ih s hs
    · rename_i h2
      rw [if_neg h2]
      simp only [List.mem_append, List.mem_singleton] at hs
      rcases hs with hs | rfl
      · exact ih s hs
      · exact h1
theorem deal_last {O : List Req} {r : Req} (h : r.give.size = 0) : (dealP L met most (O ++ [r])).seats = (dealP L met most O).seats ∨ (dealP L met most (O ++ [r])).seats = (dealP L met most O).seats ++ [seatOf r] := by
  rw [dealP_snoc, step_none h]
  split
  · exact .inr rfl
  · split <;> exact .inl rfl
theorem deal_first (hc : Calm L) {O : List Req} {r : Req} (h : ∀ x ∈ r :: O, x.give.size = 0) (hn : O.length ≤ 999) : ((dealP L met most (r :: O)).seats.head? = some (seatOf r)) ↔ fitsP L met most [] (seatOf r) = 0 := by
  have e : r :: O = [r] ++ O := rfl
  constructor
  · intro hh
    have hok := deal_ok (met := met) (most := most) hc (r :: O) (by simp; omega)
    have := hok 0 (seatOf r) (by rw [← List.head?_eq_getElem?]; exact hh)
    simpa using this
  · intro hf
    rw [e, deal_from]
    obtain ⟨m, hm⟩ := deal_grows (L := L) (met := met) (most := most) (dealP L met most [r]) O fun x hx => h x (List.mem_cons_of_mem _ hx)
    rw [hm]
    have h1 : dealP L met most [r] = stepD L met most ⟨[], []⟩ r := rfl
    rw [h1, step_none (h r (by simp)), if_pos hf]
    rfl
end
/-- What Check answers. -/
def checkP (L : List Off) (met : List Seat) (most : Int) (l : List Seat) : Nat → Int
  | 0 => 0
  | n + 1 => if checkP L met most l n = 0 then (match l[n]? with | some s => fitsP L met most (l.take n) s | none => 0) else checkP L met most l n
theorem checkP_zero {L : List Off} {met : List Seat} {most : Int} {l : List Seat} : ∀ n, checkP L met most l n = 0 ↔ ∀ k s, k < n → l[k]? = some s → fitsP L met most (l.take k) s = 0
  | 0 => by simp [checkP]
  | n + 1 => by
    have ih := checkP_zero (L := L) (met := met) (most := most) (l := l) n
    unfold checkP
    by_cases h : checkP L met most l n = 0
    · rw [if_pos h]
      have h' := ih.1 h
      constructor
      · intro e k s hk hs
        rcases Nat.lt_or_ge k n with hk' | hk'
        · exact h' k s hk' hs
        · obtain rfl : k = n := by omega
          rw [hs] at e; exact e
      · intro e
        cases hs : l[n]? with
        | none => rfl
        | some s => exact e n s (by omega) hs
    · rw [if_neg h]
      exact ⟨fun e => absurd e h, fun e => absurd (ih.2 fun k s hk hs => e k s (by omega) hs) h⟩
theorem checkP_ok {L : List Off} {met : List Seat} {most : Int} {l : List Seat} : checkP L met most l l.length = 0 ↔ OkS L met most l := by
  rw [checkP_zero]
  refine ⟨fun h k s hs => h k s ?_ hs, fun h k s _ hs => h k s hs⟩
  rcases Nat.lt_or_ge k l.length with h' | h'
  · exact h'
  · rw [List.getElem?_eq_none h'] at hs; cases hs
end Go.Proofs.YteopjiedjnaeiaaGreat
/- The reference's put: the row with the request in its place. -/
namespace Go.Proofs.YteopjiedjnaeiaaGreat
open Go Go.Proofs Go.RowKit Go.Sort Go.Lib
attribute [local go_sem] Req.cells
theorem at_c (W w1 : World) (r : Req) (hg : ((W.alloc (.cells r.cells 39)).alloc (.cells #[] 39)).drew.grownBy w1 (Value.slice (some ⟨W.heap.size + 1, 0, none⟩) 0 0).ownBlock) : ReqsIn w1 (.slice (some ⟨W.heap.size, 0, none⟩) 1 1) [r] :=
  ((reqs_one_at W r W.heap.size rfl).below (w' := ((W.alloc (.cells r.cells 39)).alloc (.cells #[] 39)).drew) (below_alloc1 _ _).drew).grown hg (.inr fun e => absurd (show W.heap.size = W.heap.size + 1 from Option.some.inj e) (by omega))

set_option maxHeartbeats 4000000 in
set_option maxRecDepth 100000 in
theorem put_r6 {s1 s2 s4 s6 s7 s8 s9 s10 s11 s12 s13 s14 s15 s16 s17 s18 s19 s20 s21 s22 s23 s24 s25 s26 s27 s28 s29 s30 s31 s32 s33 s34 s35 s36 s37 s38 s39 s40 s41 s42 s43 s44 s45 s46 : Value} (b o c k rb : Nat) (M : List Req) (r : Req) (W : World) (Q : Exit → Act → World → Prop) (hV : ReqsIn W (.slice (some ⟨b, o, none⟩) M.length c) M) (hk : k ≤ M.length) (hlc : M.length ≤ c) (hlen : M.length ≤ 100000) (hbox : ReqBox W rb r)
    (hQ : ∀ (u4 u35 u36 u37 u38 u39 u40 u41 u42 u43 u44 u45 u46 : Value) (wx : World), RowKit.Below W.heap.size W wx ∧ ReqsIn wx u4 (M.take k ++ r :: M.drop k) → Q .normal ⟨List.toArray (.slice (some ⟨b, o, none⟩) M.length c :: s1 :: s2 :: .pointer (some ⟨rb, 0, none⟩) :: u4 :: .int .i64 k :: s6 :: s7 :: s8 :: s9 :: s10 :: s11 :: s12 :: s13 :: s14 :: s15 :: s16 :: s17 :: s18 :: s19 :: s20 :: s21 :: s22 :: s23 :: s24 :: s25 :: s26 :: s27 :: s28 :: s29 :: s30 :: s31 :: s32 :: s33 :: s34 :: u35 :: u36 :: u37 :: u38 :: u39 :: u40 :: u41 :: u42 :: u43 :: u44 :: u45 :: u46 :: []), []⟩ wx) :
    (regionOf Tryz.f61 6).wp Tryz.prog Q ⟨List.toArray (.slice (some ⟨b, o, none⟩) M.length c :: s1 :: s2 :: .pointer (some ⟨rb, 0, none⟩) :: s4 :: .int .i64 k :: s6 :: s7 :: s8 :: s9 :: s10 :: s11 :: s12 :: s13 :: s14 :: s15 :: s16 :: s17 :: s18 :: s19 :: s20 :: s21 :: s22 :: s23 :: s24 :: s25 :: s26 :: s27 :: s28 :: s29 :: s30 :: s31 :: s32 :: s33 :: s34 :: s35 :: s36 :: s37 :: s38 :: s39 :: s40 :: s41 :: s42 :: s43 :: s44 :: s45 :: s46 :: []), []⟩ W := by
  refine of_onlyN (K := Q .normal) ?_ (fun _ _ h => h)
  generalize Q .normal = K at hQ ⊢
  have HQ := Lib.hid hQ; clear hQ
  conv => arg 2; whnf
  have keepS : ∀ w', RowKit.Below W.heap.size W w' → RowKit.Below W.heap.size W w' ∧ (∀ j, w'.cell? ⟨rb, j, none⟩ = r.cells[j]?) := fun w' hb => ⟨hb, (hbox.below hb).cell⟩
  simp only [Req.cells] at keepS
  have hS0 := keepS _ (Below.refl W.heap.size W).drew
  have hT : ReqsIn W (.slice (some ⟨b, o, none⟩) k c) (M.take k) := hV.take k hk
  have hZ : ReqsIn W (.slice (if c = k then some ⟨b, o, none⟩ else some ⟨b, o + k * 9, none⟩) (M.length - k) (c - k)) (M.drop k) := (by by_cases h : c = k; (rw [if_pos h]; exact hV.drop k hk o (.inl (by omega))); (rw [if_neg h]; exact hV.drop k hk _ (.inr rfl)))
  have hkn : (k : Int) ≤ (M.length : Int) := by omega
  have hkc : (k : Int) ≤ (c : Int) := by omega
  have lt1 : (M.take k).length ≤ 100000 := by simp; omega
  have lt2 : (M.drop k).length ≤ 100000 := by simp; omega
  have HV := Lib.hid hV
  clear hV hk hlc
  go_region_held3 (fun w' => RowKit.Below W.heap.size W w' ∧ (∀ j, w'.cell? ⟨rb, j, none⟩ = r.cells[j]?)) (first | exact hS0 | assumption | (refine keepS _ ?_; (first | exact Below.refl _ _ | exact (Below.refl _ _).drew | exact below_alloc1 _ _ | exact (below_alloc1 _ _).drew | exact (below_alloc1 _ _).alloc (by simp <;> omega) _ | exact ((below_alloc1 _ _).alloc (by simp <;> omega) _).drew | exact hB3 | exact hB3.drew | exact hB2.drew | exact hB2.alloc hB2.size _ | exact (hB2.alloc hB2.size _).drew | exact hB1.alloc hB1.size _ | exact (hB1.alloc hB1.size _).drew | exact hB1.drew)))
    (first
    | ((refine step_append_reqs (by rfl) (.tmp 42) (.tmp 45) (by rfl) W.heap.size _ _ ([] ++ (M.take k) ++ [r]) (M.drop k) (by rfl) (by rfl) ?_ ?_ ?_ ?_ ?_)
       · exact hown2
       · exact hZ.below hB2
       · simp only [List.nil_append, List.length_append, List.length_cons, List.length_nil]; omega
       · exact hB2.size
       intro v3 w3 hown3 hg3
       have hB3 : RowKit.Below W.heap.size W w3 := hB2.grown hg3 hB2.size (fun q hq => (hown2.lt q hq).1)
       have hS3 := keepS _ hB3)
    | ((refine step_append_reqs (by rfl) (.tmp 35) (.tmp 38) (by rfl) W.heap.size _ _ [] (M.take k) (by rfl) (by rfl) ?_ ?_ ?_ ?_ ?_)
       · (first | exact World.ownsRow_made W #[] 0 (Nat.le_refl _) (Nat.zero_le _) rfl | exact (World.ownsRow_made W #[] 0 (Nat.le_refl _) (Nat.zero_le _) rfl).alloc _ | exact own_empty_at (W.alloc _) W.heap.size (W.heap.size + 1) (by simp) (by omega))
       · (refine hT.below ?_; (first | exact Below.refl _ _ | exact (Below.refl _ _).drew | exact below_alloc1 _ _ | exact (below_alloc1 _ _).drew | exact (below_alloc1 _ _).alloc (by simp <;> omega) _ | exact ((below_alloc1 _ _).alloc (by simp <;> omega) _).drew | exact hB3 | exact hB3.drew | exact hB2.drew | exact hB2.alloc hB2.size _ | exact (hB2.alloc hB2.size _).drew | exact hB1.alloc hB1.size _ | exact (hB1.alloc hB1.size _).drew | exact hB1.drew))
       · simp only [List.length_nil]; omega
       · (simp <;> omega)
       intro v1 w1 hown1 hg1
       (first | skip | trace_state)
       have hB1 : RowKit.Below W.heap.size W w1 := by 
           (refine RowKit.Below.grown (w' := _) ?_ hg1 ?_ ?_)
           · (first | exact Below.refl _ _ | exact (Below.refl _ _).drew | exact below_alloc1 _ _ | exact (below_alloc1 _ _).drew | exact (below_alloc1 _ _).alloc (by simp <;> omega) _ | exact ((below_alloc1 _ _).alloc (by simp <;> omega) _).drew | exact hB3 | exact hB3.drew | exact hB2.drew | exact hB2.alloc hB2.size _ | exact (hB2.alloc hB2.size _).drew | exact hB1.alloc hB1.size _ | exact (hB1.alloc hB1.size _).drew | exact hB1.drew)
           · (simp <;> omega)
           · (intro q hq; injection hq with hq; subst hq; simp)
       have hS1 := keepS _ hB1
       first
         | (have h41 : ReqsIn w1 (.slice (some ⟨W.heap.size + 1, 0, none⟩) 1 1) [r] := ReqsIn.grown (show ReqsIn (World.drew ((W.alloc (.cells #[] 39)).alloc (.cells r.cells 39))) _ _ from reqs_one_at (W.alloc (.cells #[] 39)) r (W.heap.size + 1) (by simp)) hg1 (.inr fun e => absurd (show W.heap.size + 1 = W.heap.size from Option.some.inj e) (by omega)))
         | (have h41 : ReqsIn w1 (.slice (some ⟨W.heap.size, 0, none⟩) 1 1) [r] := at_c _ _ _ hg1)
         | skip)
    | ((refine step_append_reqs (by rfl) (.tmp 39) (.tmp 41) (by rfl) W.heap.size _ _ ([] ++ (M.take k)) [r] (by rfl) (by rfl) ?_ ?_ ?_ ?_ ?_)
       · first | exact hown1 | exact hown1.alloc _
       · first | exact h41 | exact reqs_one_at _ r _ rfl
       · simp only [List.nil_append, List.length_cons, List.length_nil]; omega
       · have := hB1.size; simp; omega
       intro v2 w2 hown2 hg2
       have hB2 : RowKit.Below W.heap.size W w2 := by (refine RowKit.Below.grown (w' := _) ?_ hg2 ?_ (fun q hq => (hown1.lt q hq).1); (first | exact hB1 | exact hB1.alloc hB1.size _ | exact (hB1.alloc hB1.size _).drew | exact hB1.drew); (have := hB1.size; simp; omega))
       have hS2 := keepS _ hB2))
  all_goals exact HQ.out _ _ _ _ _ _ _ _ _ _ _ _ _ _ ⟨by first | exact hB3 | exact hB3.drew, by have h := reqsIn_own hown3; rw [show [] ++ M.take k ++ [r] ++ M.drop k = M.take k ++ r :: M.drop k by simp] at h; exact h⟩

set_option maxHeartbeats 4000000 in
set_option maxRecDepth 100000 in
theorem put_r6n {s1 s2 s4 s6 s7 s8 s9 s10 s11 s12 s13 s14 s15 s16 s17 s18 s19 s20 s21 s22 s23 s24 s25 s26 s27 s28 s29 s30 s31 s32 s33 s34 s35 s36 s37 s38 s39 s40 s41 s42 s43 s44 s45 s46 : Value} (rb : Nat) (r : Req) (W : World) (Q : Exit → Act → World → Prop) (hbox : ReqBox W rb r)
    (hQ : ∀ (u4 u35 u36 u37 u38 u39 u40 u41 u42 u43 u44 u45 u46 : Value) (wx : World), RowKit.Below W.heap.size W wx ∧ ReqsIn wx u4 ([r]) → Q .normal ⟨List.toArray (.slice none 0 0 :: s1 :: s2 :: .pointer (some ⟨rb, 0, none⟩) :: u4 :: .int .i64 0 :: s6 :: s7 :: s8 :: s9 :: s10 :: s11 :: s12 :: s13 :: s14 :: s15 :: s16 :: s17 :: s18 :: s19 :: s20 :: s21 :: s22 :: s23 :: s24 :: s25 :: s26 :: s27 :: s28 :: s29 :: s30 :: s31 :: s32 :: s33 :: s34 :: u35 :: u36 :: u37 :: u38 :: u39 :: u40 :: u41 :: u42 :: u43 :: u44 :: u45 :: u46 :: []), []⟩ wx) :
    (regionOf Tryz.f61 6).wp Tryz.prog Q ⟨List.toArray (.slice none 0 0 :: s1 :: s2 :: .pointer (some ⟨rb, 0, none⟩) :: s4 :: .int .i64 0 :: s6 :: s7 :: s8 :: s9 :: s10 :: s11 :: s12 :: s13 :: s14 :: s15 :: s16 :: s17 :: s18 :: s19 :: s20 :: s21 :: s22 :: s23 :: s24 :: s25 :: s26 :: s27 :: s28 :: s29 :: s30 :: s31 :: s32 :: s33 :: s34 :: s35 :: s36 :: s37 :: s38 :: s39 :: s40 :: s41 :: s42 :: s43 :: s44 :: s45 :: s46 :: []), []⟩ W := by
  refine of_onlyN (K := Q .normal) ?_ (fun _ _ h => h)
  generalize Q .normal = K at hQ ⊢
  have HQ := Lib.hid hQ; clear hQ
  conv => arg 2; whnf
  have keepS : ∀ w', RowKit.Below W.heap.size W w' → RowKit.Below W.heap.size W w' ∧ (∀ j, w'.cell? ⟨rb, j, none⟩ = r.cells[j]?) := fun w' hb => ⟨hb, (hbox.below hb).cell⟩
  simp only [Req.cells] at keepS
  have hS0 := keepS _ (Below.refl W.heap.size W).drew
  have hT : ReqsIn W (.slice none 0 0) (([] : List Req)) := .inl ⟨rfl, rfl⟩
  have hZ : ReqsIn W (.slice none 0 0) (([] : List Req)) := .inl ⟨rfl, rfl⟩
  
  have lt1 : (([] : List Req)).length ≤ 100000 := by decide
  have lt2 : (([] : List Req)).length ≤ 100000 := by decide
  go_region_held3 (fun w' => RowKit.Below W.heap.size W w' ∧ (∀ j, w'.cell? ⟨rb, j, none⟩ = r.cells[j]?)) (first | exact hS0 | assumption | (refine keepS _ ?_; (first | exact Below.refl _ _ | exact (Below.refl _ _).drew | exact below_alloc1 _ _ | exact (below_alloc1 _ _).drew | exact (below_alloc1 _ _).alloc (by simp <;> omega) _ | exact ((below_alloc1 _ _).alloc (by simp <;> omega) _).drew | exact hB3 | exact hB3.drew | exact hB2.drew | exact hB2.alloc hB2.size _ | exact (hB2.alloc hB2.size _).drew | exact hB1.alloc hB1.size _ | exact (hB1.alloc hB1.size _).drew | exact hB1.drew)))
    (first
    | ((refine step_append_reqs (by rfl) (.tmp 42) (.tmp 45) (by rfl) W.heap.size _ _ ([] ++ (([] : List Req)) ++ [r]) (([] : List Req)) (by rfl) (by rfl) ?_ ?_ ?_ ?_ ?_)
       · exact hown2
       · exact hZ.below hB2
       · simp only [List.nil_append, List.length_cons, List.length_nil]; omega
       · exact hB2.size
       intro v3 w3 hown3 hg3
       have hB3 : RowKit.Below W.heap.size W w3 := hB2.grown hg3 hB2.size (fun q hq => (hown2.lt q hq).1)
       have hS3 := keepS _ hB3)
    | ((refine step_append_reqs (by rfl) (.tmp 35) (.tmp 38) (by rfl) W.heap.size _ _ [] (([] : List Req)) (by rfl) (by rfl) ?_ ?_ ?_ ?_ ?_)
       · (first | exact World.ownsRow_made W #[] 0 (Nat.le_refl _) (Nat.zero_le _) rfl | exact (World.ownsRow_made W #[] 0 (Nat.le_refl _) (Nat.zero_le _) rfl).alloc _ | exact own_empty_at (W.alloc _) W.heap.size (W.heap.size + 1) (by simp) (by omega))
       · (refine hT.below ?_; (first | exact Below.refl _ _ | exact (Below.refl _ _).drew | exact below_alloc1 _ _ | exact (below_alloc1 _ _).drew | exact (below_alloc1 _ _).alloc (by simp <;> omega) _ | exact ((below_alloc1 _ _).alloc (by simp <;> omega) _).drew | exact hB3 | exact hB3.drew | exact hB2.drew | exact hB2.alloc hB2.size _ | exact (hB2.alloc hB2.size _).drew | exact hB1.alloc hB1.size _ | exact (hB1.alloc hB1.size _).drew | exact hB1.drew))
       · simp only [List.length_nil]; omega
       · (simp <;> omega)
       intro v1 w1 hown1 hg1
       (first | skip | trace_state)
       have hB1 : RowKit.Below W.heap.size W w1 := by 
           (refine RowKit.Below.grown (w' := _) ?_ hg1 ?_ ?_)
           · (first | exact Below.refl _ _ | exact (Below.refl _ _).drew | exact below_alloc1 _ _ | exact (below_alloc1 _ _).drew | exact (below_alloc1 _ _).alloc (by simp <;> omega) _ | exact ((below_alloc1 _ _).alloc (by simp <;> omega) _).drew | exact hB3 | exact hB3.drew | exact hB2.drew | exact hB2.alloc hB2.size _ | exact (hB2.alloc hB2.size _).drew | exact hB1.alloc hB1.size _ | exact (hB1.alloc hB1.size _).drew | exact hB1.drew)
           · (simp <;> omega)
           · (intro q hq; injection hq with hq; subst hq; simp)
       have hS1 := keepS _ hB1
       first
         | (have h41 : ReqsIn w1 (.slice (some ⟨W.heap.size + 1, 0, none⟩) 1 1) [r] := ReqsIn.grown (show ReqsIn (World.drew ((W.alloc (.cells #[] 39)).alloc (.cells r.cells 39))) _ _ from reqs_one_at (W.alloc (.cells #[] 39)) r (W.heap.size + 1) (by simp)) hg1 (.inr fun e => absurd (show W.heap.size + 1 = W.heap.size from Option.some.inj e) (by omega)))
         | (have h41 : ReqsIn w1 (.slice (some ⟨W.heap.size, 0, none⟩) 1 1) [r] := at_c _ _ _ hg1)
         | skip)
    | ((refine step_append_reqs (by rfl) (.tmp 39) (.tmp 41) (by rfl) W.heap.size _ _ ([] ++ (([] : List Req))) [r] (by rfl) (by rfl) ?_ ?_ ?_ ?_ ?_)
       · first | exact hown1 | exact hown1.alloc _
       · first | exact h41 | exact reqs_one_at _ r _ rfl
       · simp only [List.nil_append, List.length_cons, List.length_nil]; omega
       · have := hB1.size; simp; omega
       intro v2 w2 hown2 hg2
       have hB2 : RowKit.Below W.heap.size W w2 := by (refine RowKit.Below.grown (w' := _) ?_ hg2 ?_ (fun q hq => (hown1.lt q hq).1); (first | exact hB1 | exact hB1.alloc hB1.size _ | exact (hB1.alloc hB1.size _).drew | exact hB1.drew); (have := hB1.size; simp; omega))
       have hS2 := keepS _ hB2))
  all_goals exact HQ.out _ _ _ _ _ _ _ _ _ _ _ _ _ _ ⟨by first | exact hB3 | exact hB3.drew, by have h := reqsIn_own hown3; rw [show [] ++ [] ++ [r] ++ [] = [r] by simp] at h; exact h⟩
end Go.Proofs.YteopjiedjnaeiaaGreat
namespace Go.Proofs.YteopjiedjnaeiaaGreat
open Go Go.Proofs Go.RowKit Go.Sort Go.Lib

theorem mk_act_mem {M : List Req} {x : Req} (h : x ∈ actR M) : x ∈ M ∧ numR x ∉ canK M ∧ chkR x = 0 ∧ x.cancel = false := by
  obtain ⟨h1, h2, h3⟩ := keepR_mem M (canK M) x h
  refine ⟨h1, h2, h3, ?_⟩
  cases hc : x.cancel with
  | false => rfl
  | true => exact absurd ((canK_mem M _).2 ⟨x, h1, hc, rfl⟩) h2
theorem keepR_whole : ∀ (A : List Req) (K : List (Int × Int)), (∀ r ∈ A, chkR r = 0) → (A.Pairwise fun a b => numR a ≠ numR b) → (∀ r ∈ A, numR r ∉ K) → keepR K A = A
  | [], _, _, _, _ => rfl
  | x :: A, K, h1, h2, h3 => by
    have hg : ¬ goneR K x = true := by
      rw [goneR_iff]; rintro (h | h)
      · exact h3 x (by simp) h
      · exact h (h1 x (by simp))
    rw [List.pairwise_cons] at h2
    unfold keepR
    rw [if_neg hg, keepR_whole A _ (fun r hr => h1 r (by simp [hr])) h2.2 fun r hr hm => ?_]
    · rfl
    · unfold nextK at hm
      rw [if_neg hg] at hm
      rcases List.mem_cons.1 hm with e | hm
      · exact h2.1 r hr e.symm
      · exact h3 r (by simp [hr]) hm
/-- Right requests, none of them a cancellation, with numbers of their own: all are active. -/
theorem actR_whole {A : List Req} (h : ∀ r ∈ A, chkR r = 0 ∧ r.cancel = false) (hn : A.Pairwise fun a b => numR a ≠ numR b) : actR A = A := by
  unfold actR
  refine keepR_whole A _ (fun r hr => (h r hr).1) hn fun r hr hm => ?_
  obtain ⟨x, hx, hc, _⟩ := (canK_mem A _).1 hm
  rw [(h x hx).2] at hc; cases hc
theorem actR_nums (M : List Req) : (actR M).Pairwise fun a b => numR a ≠ numR b := keepR_nums M _
theorem actR_sorted {M : List Req} (h : M.Pairwise fun a b => cmpR a b < 0) : (actR M).Pairwise fun a b => cmpR a b < 0 := by
  have hs : ∀ (L : List Req) (K : List (Int × Int)), (keepR K L).Sublist L := by
    intro L
    induction L with
    | nil => exact fun _ => List.Sublist.refl _
    | cons x L ih =>
      intro K
      unfold keepR
      by_cases hg : goneR K x = true
      · rw [if_pos hg]; exact (ih _).cons _
      · rw [if_neg hg]; exact (ih _).cons_cons _
  exact h.sublist (hs M _)
theorem actR_set {M L : List Req} (h : IsSet M L) : IsSet (actR M) (actR M) := ⟨actR_sorted h.1, fun _ => Iff.rfl⟩
theorem actR_idem (M : List Req) : actR (actR M) = actR M := actR_whole (fun _r hr => ⟨(mk_act_mem hr).2.2.1, (mk_act_mem hr).2.2.2⟩) (actR_nums M)
/-- O: the active ones of R, in the order in which they are dealt with. -/
def ActOrd (R O : List Req) : Prop := ∃ M, IsSet M R ∧ IsOrd O (actR M)
theorem ActOrd.same {R R' O O' : List Req} (h : ActOrd R O) (h' : ActOrd R' O') (e : ∀ r, r ∈ R ↔ r ∈ R') : O = O' := by
  obtain ⟨M, h1, h2⟩ := h
  obtain ⟨M', h1', h2'⟩ := h'
  obtain rfl := h1.eq h1' e
  exact h2.same h2' fun _ => Iff.rfl
theorem ActOrd.active {R O O' M : List Req} (hM : IsSet M R) (h : ActOrd R O) (h' : ActOrd (actR M) O') : O = O' := by
  obtain ⟨M1, h1, h2⟩ := h
  obtain ⟨M2, h1', h2'⟩ := h'
  obtain rfl := hM.same h1
  obtain rfl := h1'.same (actR_set hM)
  rw [actR_idem] at h2'
  exact h2.same h2' fun _ => Iff.rfl
theorem ActOrd.mem {R O M : List Req} (hM : IsSet M R) (h : ActOrd R O) (r : Req) : r ∈ O ↔ r ∈ actR M := by
  obtain ⟨M1, h1, h2⟩ := h
  obtain rfl := hM.same h1
  exact h2.1.mem_iff
theorem ActOrd.sub {R O : List Req} (h : ActOrd R O) {r : Req} (hr : r ∈ O) : r ∈ R ∧ chkR r = 0 ∧ r.cancel = false := by
  obtain ⟨M, h1, h2⟩ := h
  have h3 := mk_act_mem (h2.1.mem_iff.1 hr)
  exact ⟨(h1.2 r).1 h3.1, h3.2.2⟩
theorem ActOrd.len {R O : List Req} (h : ActOrd R O) : O.length ≤ R.length := by
  obtain ⟨M, h1, h2⟩ := h
  have hnd : O.Nodup := h2.1.nodup_iff.2 ((actR_nums M).imp fun hab e => hab (by rw [e]))
  exact nodup_le O R hnd fun r hr => (h1.2 r).1 (mk_act_mem (h2.1.mem_iff.1 hr)).1
/-- Right requests with numbers of their own: they themselves, in order. -/
theorem ActOrd.whole {R O : List Req} (hr : ∀ r ∈ R, chkR r = 0 ∧ r.cancel = false) (hn : R.Pairwise fun a b => numR a ≠ numR b) (h : ActOrd R O) : IsOrd O R := by
  obtain ⟨M, h1, h2⟩ := h
  have hp : M.Perm R := (List.perm_ext_iff_of_nodup h1.nodup (hn.imp fun hab e => hab (by rw [e]))).2 h1.2
  have e : actR M = M := actR_whole (fun r hm => hr r ((h1.2 r).1 hm)) ((List.Perm.pairwise_iff (fun {a b} h e => h e.symm) hp).2 hn)
  rw [e] at h2
  exact ⟨h2.1.trans hp, h2.2⟩
/-- One that comes last; one that comes first. -/
theorem isOrd_last {O O' R : List Req} {r : Req} (h : IsOrd O R) (h' : IsOrd O' (R ++ [r])) (hl : ∀ x ∈ R, cmpB x r < 0) : O' = O ++ [r] := by
  refine h'.same (A' := R ++ [r]) ⟨h.1.append_right _, ?_⟩ fun _ => Iff.rfl
  rw [List.pairwise_append]
  exact ⟨h.2, List.pairwise_singleton _ _, fun a ha b hb => by simp at hb; subst hb; exact hl a (h.1.mem_iff.1 ha)⟩
theorem isOrd_first {O O' R : List Req} {r : Req} (h : IsOrd O R) (h' : IsOrd O' (R ++ [r])) (hl : ∀ x ∈ R, cmpB r x < 0) : O' = r :: O := by
  refine h'.same (A' := r :: R) ⟨h.1.cons _, ?_⟩ fun x => by simp [or_comm]
  exact List.pairwise_cons.2 ⟨fun a ha => hl a (h.1.mem_iff.1 ha), h.2⟩
theorem cmpB_prio {a b : Req} (h : b.priority < a.priority) : cmpB a b < 0 := by
  unfold cmpB Lib.compareInt
  rw [if_pos h]; simp
end Go.Proofs.YteopjiedjnaeiaaGreat
