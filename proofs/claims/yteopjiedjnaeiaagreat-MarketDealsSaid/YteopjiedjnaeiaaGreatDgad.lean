/- request.sorted: the requests of a set, in order. -/
import Derived.Test.YteopjiedjnaeiaaGreatDgac
import Derived.Test.YteopjiedjnaeiaaGreatSortF
import Derived.Maps.OwnSet
import Derived.Maps.Keyed
import Derived.Maps.RangeWalk
import Derived.DeepKeys4
import Derived.RangeFuncGives
import Derived.RangeFuncSeq
import Derived.Sort.MapsRangeIn
import Derived.Sort.KeysCollected
import Derived.WalkKit
import Derived.OwnWalkIn
import Derived.TacticsInMore
import Derived.RegionIn
import Derived.LoopNIn
import Derived.LoopIn
import Derived.Maps.AppendAt
import Derived.Deep.AppendLies
import Derived.RangeFuncBound
import Derived.Sort.OwnSorted
/- The order of requests is total; slices.SortFunc by request.compare. -/
namespace Go.Proofs.YteopjiedjnaeiaaGreat
open Go Go.RowKit Go.Sort Go.Lib Go.Shelf

/-- A comparison. -/
structure CmpOK {α : Type} (f : α → α → Int) : Prop where
  swap : ∀ x y, f y x = - f x y
  le : ∀ x y z, f x y ≤ 0 → f y z ≤ 0 → f x z ≤ 0
theorem CmpOK.lex {α : Type} {f g : α → α → Int} (hf : CmpOK f) (hg : CmpOK g) : CmpOK (fun x y => if f x y = 0 then g x y else f x y) where
  swap x y := by
    have h1 := hf.swap x y
    have h2 := hg.swap x y
    split <;> split <;> omega
  le x y z h1 h2 := by
    have a1 := hf.swap x y; have a2 := hf.swap y z; have a3 := hf.swap x z
    have b1 := hf.le x y z; have b2 := hf.le y z x; have b3 := hf.le z x y; have b4 := hf.le z y x; have b5 := hf.le y x z; have b6 := hf.le x z y
    have c := hg.le x y z
    split at h1 <;> split at h2 <;> split <;> omega
theorem CmpOK.on {α β : Type} {f : β → β → Int} (h : CmpOK f) (p : α → β) : CmpOK (fun x y => f (p x) (p y)) := ⟨fun _ _ => h.swap _ _, fun _ _ _ => h.le _ _ _⟩
theorem ci_ok : CmpOK Lib.compareInt where
  swap x y := by unfold Lib.compareInt; split <;> split <;> (try split) <;> (try split) <;> omega
  le x y z := by unfold Lib.compareInt; split <;> split <;> split <;> (try split) <;> (try split) <;> (try split) <;> omega
theorem cb_swap : ∀ (x y : List UInt8), Lib.compareBytes y x = - Lib.compareBytes x y
  | [], [] => rfl
  | [], _ :: _ => rfl
  | _ :: _, [] => rfl
  | a :: x, b :: y => by
    have ih := cb_swap x y
    unfold Lib.compareBytes
    have hab : (a < b) = (a.toNat < b.toNat) := rfl
    have hba : (b < a) = (b.toNat < a.toNat) := rfl
    simp only [hab, hba]
    split <;> split <;> first | omega | (simp; try omega)
theorem cb_le : ∀ (x y z : List UInt8), Lib.compareBytes x y ≤ 0 → Lib.compareBytes y z ≤ 0 → Lib.compareBytes x z ≤ 0
  | [], _, [] => by simp [Lib.compareBytes]
  | [], _, _ :: _ => by simp [Lib.compareBytes]
  | _ :: _, [], _ => by simp [Lib.compareBytes]
  | _ :: _, _ :: _, [] => by simp [Lib.compareBytes]
  | a :: x, b :: y, c :: z => by
    have ih := cb_le x y z
    unfold Lib.compareBytes
    have h1 : (a < b) = (a.toNat < b.toNat) := rfl
    have h2 : (b < a) = (b.toNat < a.toNat) := rfl
    have h3 : (b < c) = (b.toNat < c.toNat) := rfl
    have h4 : (c < b) = (c.toNat < b.toNat) := rfl
    have h5 : (a < c) = (a.toNat < c.toNat) := rfl
    have h6 : (c < a) = (c.toNat < a.toNat) := rfl
    simp only [h1, h2, h3, h4, h5, h6]
    split <;> split <;> split <;> (try split) <;> (try split) <;> (try split) <;> first | omega | (intros; omega) | (intro p q; exact ih p q)
theorem cb_ok : CmpOK Lib.compareBytes := ⟨cb_swap, cb_le⟩
theorem nil_ok {α : Type} : CmpOK (fun _ _ : α => (0 : Int)) := ⟨fun _ _ => rfl, fun _ _ _ _ h => h⟩
theorem cmpR_eq (a b : Req) : cmpR a b = (if Lib.compareInt a.server b.server = 0 then if Lib.compareInt a.seq b.seq = 0 then if Lib.compareInt (truthN a.cancel) (truthN b.cancel) = 0 then if Lib.compareInt a.student b.student = 0 then if Lib.compareInt a.term b.term = 0 then
    if Lib.compareBytes a.code.data.toList b.code.data.toList = 0 then if Lib.compareBytes a.give.data.toList b.give.data.toList = 0 then if Lib.compareInt a.priority b.priority = 0 then if Lib.compareInt a.day b.day = 0 then 0 else Lib.compareInt a.day b.day else Lib.compareInt a.priority b.priority else Lib.compareBytes a.give.data.toList b.give.data.toList else Lib.compareBytes a.code.data.toList b.code.data.toList else Lib.compareInt a.term b.term else Lib.compareInt a.student b.student else Lib.compareInt (truthN a.cancel) (truthN b.cancel) else Lib.compareInt a.seq b.seq else Lib.compareInt a.server b.server) := rfl
theorem cmpR_ok : CmpOK cmpR :=
  show CmpOK (fun a b => cmpR a b) from by
    simp only [cmpR_eq]
    exact (ci_ok.on Req.server).lex ((ci_ok.on Req.seq).lex ((ci_ok.on (fun r : Req => truthN r.cancel)).lex ((ci_ok.on Req.student).lex ((ci_ok.on Req.term).lex ((cb_ok.on (fun r : Req => r.code.data.toList)).lex ((cb_ok.on (fun r : Req => r.give.data.toList)).lex ((ci_ok.on Req.priority).lex ((ci_ok.on Req.day).lex nil_ok))))))))
theorem cmpR_zero (a b : Req) : cmpR a b = 0 ↔ a = b := by
  constructor
  · intro h
    rw [cmpR_eq] at h
    repeat' split at h
    all_goals first | contradiction | skip
    rename_i h1 h2 h3 h4 h5 h6 h7 h8 h9
    rw [ci_zero] at h1 h2 h4 h5 h8 h9
    rw [ci_zero, tr_eq] at h3
    rw [cb_zero] at h6 h7
    obtain ⟨a1, a2, a3, a4, a5, ⟨⟨a6⟩⟩, ⟨⟨a7⟩⟩, a8, a9⟩ := a
    obtain ⟨b1, b2, b3, b4, b5, ⟨⟨b6⟩⟩, ⟨⟨b7⟩⟩, b8, b9⟩ := b
    simp only at h1 h2 h3 h4 h5 h6 h7 h8 h9
    subst h1; subst h2; subst h3; subst h4; subst h5; subst h6; subst h7; subst h8; subst h9
    rfl
  · rintro rfl
    have := cmpR_ok.swap a a
    omega
theorem ltR (a b : Req) : ltOf cmpR a b = lessR a b := rfl
theorem swoR : SWO (ltOf cmpR) where
  irrefl x := by have := cmpR_ok.swap x x; simp [ltOf]; omega
  trans x y z h1 h2 := by
    have a1 := cmpR_ok.swap x y; have a2 := cmpR_ok.swap y z; have a3 := cmpR_ok.swap x z
    have b1 := cmpR_ok.le x y z; have b2 := cmpR_ok.le y z x
    simp only [ltOf, decide_eq_true_eq] at *
    omega
  ntrans x y z h1 h2 := by
    have a1 := cmpR_ok.swap x y; have a2 := cmpR_ok.swap y z; have a3 := cmpR_ok.swap x z
    have b1 := cmpR_ok.le z y x
    simp only [ltOf, decide_eq_false_iff_not] at *
    omega
theorem totR (x y : Req) (h1 : ltOf cmpR x y = false) (h2 : ltOf cmpR y x = false) : x = y := by
  have a1 := cmpR_ok.swap x y
  simp only [ltOf, decide_eq_false_iff_not] at h1 h2
  exact (cmpR_zero x y).1 (by omega)
instance : Inhabited Req := ⟨⟨0, 0, false, 0, 0, ⟨#[]⟩, ⟨#[]⟩, 0, 0⟩⟩
def encR (r : Req) : List Value := r.cells.toList
/-- Requests in order. -/
def sortR (l : List Req) : List Req := l.mergeSort fun x y => !(ltOf cmpR) y x
theorem sort_any (blk off cap : Nat) (d : Array Req) (w : World) (hH : HoldsK encR 9 w blk off d) (hblk : blk < w.heap.size) (hsz : d.size < 4611686018427387904) :
    Calls Tryz.prog 77 #[.slice (some ⟨blk, off, none⟩) d.size cap, .func (.func 69) #[] #[]] w fun e w' =>
      e = .returned (.tuple #[]) ∧ ∃ n os, w' = sortWorldK encR 9 w blk off n (sortR d.toList).toArray os :=
  AnyQ.slices_SortFunc_total Tryz.sortReq 9 Tryz.isAgg39 Tryz.sizeOf39 encR (fun _ => rfl) (fun x v hv => by
      simp [encR, Req.cells] at hv
      rcases hv with rfl | rfl | rfl | rfl | rfl | rfl | rfl | rfl | rfl <;> rfl) cmpR swoR 69 #[] blk off cap d w (enters_of Tryz.func69 (by kernel_rfl) rfl)
    (fun m os dk _ x y => compare_any x y _) hH hblk hsz totR
end Go.Proofs.YteopjiedjnaeiaaGreat
/- Requests as keys of a map. -/
namespace Go.Proofs.YteopjiedjnaeiaaGreat
open Go Go.RowKit Go.Sort Go.Lib Go.Maps

theorem rq_laidOut : laidOutB Tryz.prog = true := by kernel_rfl
theorem rq_keyed : Maps.Keyed Tryz.prog 39 :=
  Maps.Keyed.of_law (deep_law_laid rq_laidOut (m := 2) (by omega) (of_decide_eq_true (by kernel_rfl)) (by kernel_rfl) (by rw [Tryz.underlying39]))
/-- A request that can be a key. -/
def Req.wf (r : Req) : Prop := (Lit.int .i64 r.server).wf = true ∧ (Lit.int .i64 r.seq).wf = true ∧ (Lit.int .i64 r.student).wf = true ∧ (Lit.int .i64 r.term).wf = true ∧ r.code.size ≤ maxLen ∧ r.give.size ≤ maxLen ∧ (Lit.int .i64 r.priority).wf = true ∧ (Lit.int .i64 r.day).wf = true
def litsR (r : Req) : List Lit := [.int .i64 r.server, .int .i64 r.seq, .bool r.cancel, .int .i64 r.student, .int .i64 r.term, .string r.code.data.toList, .string r.give.data.toList, .int .i64 r.priority, .int .i64 r.day]
def litR (r : Req) : Lit := .string (keyBytes (litsR r))
theorem lits_int (d : Nat) (n : Int) (h : (Lit.int .i64 n).wf = true) : Tryz.prog.keyLits (d + 1) 3 [.int .i64 n] = some [.int .i64 n] := by
  unfold Program.keyLits
  rw [Tryz.underlying3]
  simp [h]
theorem lits_bool (d : Nat) (b : Bool) : Tryz.prog.keyLits (d + 1) 4 [.bool b] = some [.bool b] := by
  unfold Program.keyLits
  rw [Tryz.underlying4]
theorem lits_str (d : Nat) (s : ByteArray) (h : s.size ≤ maxLen) : Tryz.prog.keyLits (d + 1) 9 [.string s] = some [.string s.data.toList] := by
  unfold Program.keyLits
  rw [Tryz.underlying9]
  simp [h]
set_option maxRecDepth 100000 in
theorem key_req (r : Req) (h : r.wf) : keyOf Tryz.prog 39 r.val = some (litR r) := by
  obtain ⟨h1, h2, h3, h4, h5, h6, h7, h8⟩ := h
  have hn : Tryz.prog.cellsOf 39 = 9 := by kernel_rfl
  have c1 : Tryz.prog.cellsOf 3 = 1 := by kernel_rfl
  have c2 : Tryz.prog.cellsOf 4 = 1 := by kernel_rfl
  have c3 : Tryz.prog.cellsOf 9 = 1 := by kernel_rfl
  have hk : Tryz.prog.keyType 39 = true := by kernel_rfl
  obtain ⟨sz, hsz⟩ : ∃ sz, Tryz.prog.types.size = sz + 1 := ⟨Tryz.prog.types.size - 1, by kernel_rfl⟩
  unfold keyOf
  rw [Tryz.underlying39]
  simp only [hk, Value.formed, Tryz.underlying39, hn]
  unfold Program.keyLits
  rw [Tryz.underlying39, hsz]
  simp [hn, c1, c2, c3, Value.cells, lits_int, lits_bool, lits_str, h1, h2, h3, h4, h5, h6, h7, h8, litR, litsR]
set_option maxRecDepth 100000 in
theorem lits_int_inv {d : Nat} {c : Value} {ls : List Lit} (h : Tryz.prog.keyLits (d + 1) 3 [c] = some ls) : ∃ n, c = .int .i64 n ∧ (Lit.int .i64 n).wf = true ∧ ls = [.int .i64 n] := by
  unfold Program.keyLits at h
  rw [Tryz.underlying3] at h
  cases c <;> simp at h
  rename_i q n
  obtain ⟨⟨rfl, hw⟩, rfl⟩ := h
  exact ⟨n, rfl, hw, rfl⟩
set_option maxRecDepth 100000 in
theorem lits_bool_inv {d : Nat} {c : Value} {ls : List Lit} (h : Tryz.prog.keyLits (d + 1) 4 [c] = some ls) : ∃ b, c = .bool b ∧ ls = [.bool b] := by
  unfold Program.keyLits at h
  rw [Tryz.underlying4] at h
  cases c <;> simp at h
  exact ⟨_, rfl, h.symm⟩
set_option maxRecDepth 100000 in
theorem lits_str_inv {d : Nat} {c : Value} {ls : List Lit} (h : Tryz.prog.keyLits (d + 1) 9 [c] = some ls) : ∃ s : ByteArray, c = .string s ∧ s.size ≤ maxLen ∧ ls = [.string s.data.toList] := by
  unfold Program.keyLits at h
  rw [Tryz.underlying9] at h
  cases c <;> simp at h
  exact ⟨_, rfl, h.1, h.2.symm⟩
set_option maxRecDepth 100000 in
/-- What can be a key is a request. -/
theorem key_inv {v : Value} {l : Lit} (h : keyOf Tryz.prog 39 v = some l) : ∃ r : Req, v = r.val ∧ l = litR r ∧ r.wf := by
  have hn : Tryz.prog.cellsOf 39 = 9 := by kernel_rfl
  have c1 : Tryz.prog.cellsOf 3 = 1 := by kernel_rfl
  have c2 : Tryz.prog.cellsOf 4 = 1 := by kernel_rfl
  have c3 : Tryz.prog.cellsOf 9 = 1 := by kernel_rfl
  have hk : Tryz.prog.keyType 39 = true := by kernel_rfl
  obtain ⟨sz, hsz⟩ : ∃ sz, Tryz.prog.types.size = sz + 1 := ⟨Tryz.prog.types.size - 1, by kernel_rfl⟩
  unfold keyOf at h
  rw [Tryz.underlying39] at h
  cases v with
  | agg cs =>
    obtain ⟨L⟩ := cs
    simp only [hk, Value.formed, Tryz.underlying39, hn, Bool.true_and, beq_iff_eq] at h
    by_cases hs : (L.toArray).size = 9
    · rw [if_pos hs] at h
      match L, hs with
      | [x0, x1, x2, x3, x4, x5, x6, x7, x8], _ =>
        obtain ⟨ls, hls, rfl⟩ := Option.map_eq_some_iff.1 h
        unfold Program.keyLits at hls
        rw [Tryz.underlying39, hsz] at hls
        simp [hn, c1, c2, c3, Value.cells, Option.bind_eq_some_iff] at hls
        obtain ⟨l0, e0, _, ⟨l1, e1, _, ⟨l2, e2, _, ⟨l3, e3, _, ⟨l4, e4, _, ⟨l5, e5, _, ⟨l6, e6, _, ⟨l7, e7, _, ⟨l8, e8, rfl⟩, rfl⟩, rfl⟩, rfl⟩, rfl⟩, rfl⟩, rfl⟩, rfl⟩, rfl⟩ := hls
        obtain ⟨n0, rfl, w0, rfl⟩ := lits_int_inv e0
        obtain ⟨n1, rfl, w1, rfl⟩ := lits_int_inv e1
        obtain ⟨n2, rfl, rfl⟩ := lits_bool_inv e2
        obtain ⟨n3, rfl, w3, rfl⟩ := lits_int_inv e3
        obtain ⟨n4, rfl, w4, rfl⟩ := lits_int_inv e4
        obtain ⟨n5, rfl, w5, rfl⟩ := lits_str_inv e5
        obtain ⟨n6, rfl, w6, rfl⟩ := lits_str_inv e6
        obtain ⟨n7, rfl, w7, rfl⟩ := lits_int_inv e7
        obtain ⟨n8, rfl, w8, rfl⟩ := lits_int_inv e8
        exact ⟨⟨n0, n1, n2, n3, n4, n5, n6, n7, n8⟩, rfl, rfl, w0, w1, w3, w4, w5, w6, w7, w8⟩
    · rw [if_neg hs] at h; cases h
  | _ => simp [Value.formed, Tryz.underlying39] at h
theorem val_inj {a b : Req} (h : a.val = b.val) : a = b := by
  cases a; cases b
  simp only [Req.val, Value.agg.injEq, Array.mk.injEq, List.cons.injEq, Value.int.injEq, Value.bool.injEq, Value.string.injEq, true_and, and_true] at h
  obtain ⟨h1, h2, h3, h4, h5, h6, h7, h8, h9⟩ := h
  subst h1; subst h2; subst h3; subst h4; subst h5; subst h6; subst h7; subst h8; subst h9
  rfl
theorem litR_inj {a b : Req} (ha : a.wf) (hb : b.wf) (h : litR a = litR b) : a = b :=
  val_inj (rq_keyed.inj (key_req a ha) (by rw [h]; exact key_req b hb))
end Go.Proofs.YteopjiedjnaeiaaGreat
/- maps.Keys over a map keyed by requests: the keys come, each once, in some order. -/
namespace Go.Proofs.YteopjiedjnaeiaaGreat
open Go Go.Proofs Go.RowKit Go.Maps Go.Sort Go.Lib
attribute [local go_sem] Req.cells

/-- What has been collected: no key twice; a key is on the list just where the map has it and it is no longer to come. -/
def CollR (D0 : DataW Unit) (left : Lit → Bool) (ks : List Req) : Prop := ks.Nodup ∧ (∀ x ∈ ks, x.wf) ∧ ∀ x : Req, x.wf → (x ∈ ks ↔ (Maps.has D0 (litR x) = true ∧ left (litR x) = false))
theorem CollR.start (D0 : DataW Unit) : CollR D0 (Maps.has D0) [] := ⟨List.nodup_nil, by simp, fun x _ => by cases Maps.has D0 (litR x) <;> simp⟩
theorem same_lit {x y : Req} (hx : x.wf) (hy : y.wf) : (litR y).sameKey (litR x) = true ↔ y = x := by
  constructor
  · intro h
    simp only [litR, Lit.sameKey, beq_iff_eq] at h
    exact litR_inj hy hx (by unfold litR; rw [h])
  · rintro rfl; simp [litR, Lit.sameKey]
theorem CollR.step {D0 : DataW Unit} {left : Lit → Bool} {ks : List Req} (h : CollR D0 left ks) {x : Req} (hx : x.wf) {y : DataW Unit} (hlk : left (litR x) = true) (hat : ∀ zd, D0.atKey (litR x) zd = y) :
    CollR D0 (fun z => left z && !z.sameKey (litR x)) (ks ++ [x]) := by
  obtain ⟨h1, h2, h3⟩ := h
  have hhas : Maps.has D0 (litR x) = true := Maps.has_true_of_atKey hat
  have hnew : x ∉ ks := fun hm => by have := ((h3 x hx).1 hm).2; rw [hlk] at this; cases this
  refine ⟨List.nodup_append.2 ⟨h1, by simp, ?_⟩, ?_, ?_⟩
  · intro a ha b hb
    simp only [List.mem_singleton] at hb
    subst hb
    rintro rfl
    exact hnew ha
  · intro a ha
    rcases List.mem_append.1 ha with ha | ha
    · exact h2 a ha
    · simp only [List.mem_singleton] at ha; subst ha; exact hx
  · intro z hz
    have hs := same_lit hx hz
    rw [List.mem_append, List.mem_singleton, h3 z hz]
    constructor
    · rintro (⟨a, b⟩ | rfl)
      · exact ⟨a, by simp [b]⟩
      · exact ⟨hhas, by simp [hs.2 rfl]⟩
    · rintro ⟨a, b⟩
      by_cases he : z = x
      · exact .inr he
      · refine .inl ⟨a, ?_⟩
        have : (litR z).sameKey (litR x) = false := by
          cases hq : (litR z).sameKey (litR x)
          · rfl
          · exact absurd (hs.1 hq) he
        simpa [this] using b
/-- The keys of a map, as a list. -/
def KeysR (D0 : DataW Unit) (ks : List Req) : Prop := ks.Nodup ∧ (∀ x ∈ ks, x.wf) ∧ ∀ x : Req, x.wf → (x ∈ ks ↔ Maps.has D0 (litR x) = true)
theorem CollR.all {D0 : DataW Unit} {left : Lit → Bool} {ks : List Req} (h : CollR D0 left ks) (hl : ∀ kl, left kl = false) : KeysR D0 ks := ⟨h.1, h.2.1, fun x hx => by rw [h.2.2 x hx]; simp [hl]⟩
theorem req_inj {x y : Req} (h : x.val = y.val) : x = y := val_inj h

set_option maxRecDepth 100000 in
set_option maxHeartbeats 2000000 in
theorem keys1_in (F : Fence) (n : Nat) (h10 : F.fn 78) (hro : F.round = none) (hn : 1 ≤ n) (l Bm b nn : Nat) (D0 : DataW Unit) (J : List Req → World → Prop)
    (hY : ∀ pre x W, J pre W → pre.length < Maps.size D0 → YieldAt F (n - 1) Tryz.prog l #[x.val] W fun e W' => e = .returned (.bool true) ∧ J (pre ++ [x]) W' ∧ KeepsWalks W W')
    (W : World) (hJ : AbidesFrom W.heap.size J) (hm : W.cell? ⟨Bm, 0, none⟩ = some (.map (some b))) (hown : W.ownsMap Tryz.prog 39 (plainElem Tryz.prog 4) b nn D0) (h0 : J [] W) :
    CallsIn F n Tryz.prog 78 #[.func (.yield l) #[] #[], .pointer (some ⟨Bm, 0, none⟩)] W fun e W' => (∃ v, e = .returned v) ∧ ∃ ks : List Req, KeysR D0 ks ∧ J ks W' := by
  refine callsIn_of_wp Tryz.func78 rfl h10 ?_ hro
  simp only [Tryz.ntmps78, List.size_toArray, List.length_cons, List.length_nil, Nat.reduceAdd, Nat.reduceSub, Array.replicate_succ, Array.replicate_zero, List.push_toArray, List.append_toArray, List.nil_append, List.cons_append]
  gi_wp2_with (first
    | (gi_at_range; refine wpListIn_range_own _ rfl _ 103 rfl 39 4 rq_keyed Tryz.underlying103 _ b nn _ rfl hown ?_; intro w0 hrg0 hg0 hs0)
    | gi_in)
  go_frame
  gi_loopw [3] (fun _ wr => ∃ (left : Lit → Bool) (cnt : Nat) (ks : List Req), wr.ranges Tryz.prog 39 (plainElem Tryz.prog 4) b W.heap.size nn D0 left cnt ∧ ks.length + cnt ≤ Maps.size D0 ∧ CollR D0 left ks ∧ J ks wr)
    (fun _ wr => wr.rangeLeft b W.heap.size)
  case atStart =>
    exact ⟨_, _, [], hrg0, by simp, CollR.start D0, hJ [] W w0 none h0 hg0 (fun r e => by cases e)⟩
  case round =>
    obtain ⟨left, cnt, ks, hrg, hcs, hC, hJs⟩ := hrel
    gi_wp2_with (first
      | (gi_at_next; refine wpListIn_next_ranges _ rfl _ rfl 39 rq_keyed (plainElem Tryz.prog 4) Req.val id (fun key kl hk => by obtain ⟨x, hx, _⟩ := key_inv hk; exact ⟨x, hx⟩) (fun v _ _ => ⟨v, rfl⟩) b W.heap.size nn _ _ _ rfl hrg ?_ ?_)
      | gi_in)
    · intro hc0 hl0
      gi_wp2
      go_end0
      exact ⟨⟨_, rfl⟩, ks, hC.all hl0, hJs⟩
    · intro x c kl yd yp w2 cnt2 hkey hlk hv hat hrg2 hlt hg2 hs2 hen
      obtain ⟨x', ex, rfl, hwf⟩ := key_inv hkey
      obtain rfl : x = x' := req_inj ex
      have hJ2 : J ks w2 := hJ ks wr w2 (some W.heap.size) hJs hg2 (fun r e => by cases e; exact ⟨Nat.le_refl _, hrg.iter_walk⟩)
      have hJ3 : J ks (w2.alloc (.cells x.cells 39)) := hJ ks w2 _ none hJ2 (World.grownBy_alloc w2 _ none) (fun r e => by cases e)
      obtain ⟨fn, tmps, assign, body, hy, hR⟩ := hY ks x (w2.alloc (.cells x.cells 39)) hJ3 (by omega)
      clear hs2
      simp only [Req.val, Req.cells] at hy
      gi_wp2
      refine hR.mono ?_
      rintro e W3 ⟨rfl, hJ4, hk3⟩
      gi_wp2
      have hrg3 := (hrg2.alloc (.cells x.cells 39)).of_walks hk3
      go_roundw
      case rel => exact ⟨_, cnt2, ks ++ [x], hrg3, by simp; omega, hC.step hwf hlk hat, hJ4⟩
      case measure => rw [hrg3.left_eq, hrg.left_eq]; exact hlt
/-- maps.Keys(m): the map is boxed; the function value captures the box. -/
theorem keys_in (F : Fence) (n : Nat) (h7 : F.fn 68) (hro : F.round = none) (mb : Option Nat) (w : World) :
    CallsIn F n Tryz.prog 68 #[.map mb] w fun e w' => e = .returned (.func (.func 78) #[] #[.pointer (some ⟨w.heap.size, 0, none⟩)]) ∧ w' = w.alloc (.cells #[.map mb] 103) := by
  refine callsIn_of_wp Tryz.func68 rfl h7 ?_ hro
  simp only [Tryz.ntmps68, List.size_toArray, List.length_cons, List.length_nil, Nat.reduceAdd, Nat.reduceSub, Array.replicate_succ, Array.replicate_zero, List.push_toArray, List.append_toArray, List.nil_append, List.cons_append]
  gi_wp2
  go_ret
  exact ⟨rfl, rfl⟩
/-- maps.Keys(m) hands back an iterator over m's keys. -/
theorem keys_gives (F : Fence) (n : Nat) (h10 : F.fn 78) (hro : F.round = none) (hn : 1 ≤ n) (Bm b nn : Nat) (D0 : DataW Unit) (w : World) (hBm : Bm < w.heap.size)
    (hm : w.cell? ⟨Bm, 0, none⟩ = some (.map (some b))) (hown : w.ownsMap Tryz.prog 39 (plainElem Tryz.prog 4) b nn D0) :
    SeqGives F n Tryz.prog 78 #[.pointer (some ⟨Bm, 0, none⟩)] Req.val (KeysR D0) (Maps.size D0) w := fun l J W hW hJ hY h0 => by
  have hown' : W.ownsMap Tryz.prog 39 (plainElem Tryz.prog 4) b nn D0 := by
    have hbl := hown.lt
    obtain ⟨es, clock, hb, Ft, hs, hD⟩ := hown
    exact ⟨es, clock, (hW.block b hbl).trans hb, Ft, hs, hD⟩
  exact keys1_in F n h10 hro hn l Bm b nn D0 J hY W hJ ((hW.cell (p := ⟨Bm, 0, none⟩) hBm).trans hm) hown' h0
end Go.Proofs.YteopjiedjnaeiaaGreat
/- slices.AppendSeq and slices.Collect over requests, against whatever iterator: what it gave, in that order. -/
namespace Go.Proofs.YteopjiedjnaeiaaGreat
open Go Go.Proofs Go.RowKit Go.Maps Go.Sort Go.Lib
attribute [local go_sem] Req.cells

def reqCells (ks : List Req) : List Value := ks.flatMap fun r => r.cells.toList
theorem reqCells_snoc (ks : List Req) (x : Req) : reqCells (ks ++ [x]) = reqCells ks ++ x.cells.toList := by simp [reqCells]
theorem req_info : (Tryz.prog.info? 39).map (fun i => (i.zero, i.size, i.bytes)) = some (some (.agg #[.int .i64 0, .int .i64 0, .bool false, .int .i64 0, .int .i64 0, .string ⟨#[]⟩, .string ⟨#[]⟩, .int .i64 0, .int .i64 0]), 9, 88) := by kernel_rfl
theorem req_one (r : Req) : ∀ u ∈ r.cells.toList, u.oneCell' = true := by
  intro u hu
  simp [Req.cells] at hu
  rcases hu with rfl | rfl | rfl | rfl | rfl | rfl | rfl | rfl | rfl <;> rfl
theorem new_two (w : World) (o o' : Obj) : ((w.alloc o).alloc o').heap[w.heap.size + 1]? = some o' := by
  have := heap_alloc_new (w.alloc o) o'
  rwa [World.size_alloc] at this
def apAssign : Code := (Code.region 2 #[{ dst := some 5, op := Op.alloc 39, type := 0, pos := "iter.go:51", after := #[], guard := none }, { dst := none, op := Op.store 39 (Operand.tmp 5) (Operand.tmp 7), type := 0, pos := "iter.go:51", after := #[{ on := 0, ground := Ground.data }, { on := 0, ground := Ground.phase }], guard := none }] false)
def apBody : Code := (Code.block 1 (Code.region 3 #[{ dst := some 8, op := Op.load 30 (Operand.tmp 2), type := 30, pos := "iter.go:52", after := #[], guard := none }, { dst := some 9, op := Op.load 39 (Operand.tmp 5), type := 39, pos := "iter.go:52", after := #[], guard := none }, { dst := some 10, op := Op.buildSlice 30 1 #[(0, Operand.tmp 9)], type := 30, pos := "iter.go:52", after := #[{ on := 1, ground := Ground.data }], guard := none }, { dst := some 11, op := Op.call { callee := Callee.builtin Builtin.append, args := #[Operand.tmp 8, Operand.tmp 10], argTypes := #[30, 30] }, type := 30, pos := "iter.go:52", after := #[{ on := 0, ground := Ground.data }, { on := 2, ground := Ground.data }], guard := none }, { dst := none, op := Op.store 30 (Operand.tmp 2) (Operand.tmp 11), type := 0, pos := "iter.go:52", after := #[{ on := 3, ground := Ground.data }, { on := 3, ground := Ground.chain }, { on := 0, ground := Ground.phase }, { on := 1, ground := Ground.phase }, { on := 2, ground := Ground.phase }, { on := 3, ground := Ground.phase }], guard := none }] false))
/-- The loop's record: AppendSeq's temporaries as they stood at the entering. -/
def apRec (fn : FuncId) (sv : Value) (Bs D : Nat) (st : LoopState) (pend : Option Code) : Loop :=
  { state := st, pending := pend, fn, tmps := #[.slice none 0 0, sv, .pointer (some ⟨Bs, 0, none⟩), undef, .slice none 0 0, undef, sv, undef, undef, undef, undef, undef, undef], params := #[7], assign := apAssign, body := apBody, defers := D }
/-- Between two rounds: the box holds a slice that owns what has come so far; nil just as long as nothing has come. -/
structure ApAt (w0 : World) (fn : FuncId) (sv : Value) (Bs l D : Nat) (ks : List Req) (W : World) : Prop where
  box : ∃ v, W.heap[Bs]? = some (.cells #[v] 30 (0, 0)) ∧ W.ownsRow w0.heap.size 39 9 v ks.length (reqCells ks) ∧ (v = .slice none 0 0 ↔ ks = [])
  L : W.heap[l]? = some (.loop (apRec fn sv Bs D .ready none))
  K : W.heap[D]? = some (.deferred (some []))
  below : RowKit.Below w0.heap.size w0 W
theorem row_abides {W W' : World} {row : Option Nat} {base : Nat} {e : TypeId} {size : Nat} {v : Value} {k : Nat} {xs : List Value} (h : W.ownsRow base e size v k xs) (hg : W.grownBy W' row)
    (hrow : ∀ r, row = some r → ∃ o : Obj, W.heap[r]? = some o ∧ o.isWalk = true) : W'.ownsRow base e size v k xs := by
  refine h.kept hg ?_
  rcases h.2 with ⟨rfl, _⟩ | ⟨g, cap, cur, rfl, _, hgb, _⟩
  · exact .inl rfl
  · refine .inr fun e' => ?_
    obtain ⟨o, ho, hw⟩ := hrow g (by simpa [Value.ownBlock] using e'.symm)
    rw [hgb] at ho; cases ho; cases hw
theorem ap_abides (w0 : World) (fn : FuncId) (sv : Value) (Bs l D B : Nat) (hB : w0.heap.size ≤ B) : AbidesFrom B (ApAt w0 fn sv Bs l D) := fun s W W' row h hg hrow => by
  have hrow' : ∀ r, row = some r → ∃ o : Obj, W.heap[r]? = some o ∧ o.isWalk = true := fun r e => (hrow r e).2
  obtain ⟨v, hv, hr, hn⟩ := h.box
  exact ⟨⟨v, (grownBy_keeps hg hrow' hv rfl).trans hv, row_abides hr hg hrow', hn⟩, (grownBy_keeps hg hrow' h.L rfl).trans h.L, (grownBy_keeps hg hrow' h.K rfl).trans h.K,
    h.below.grown hg h.below.size (fun k e => Nat.le_trans hB (hrow k e).1)⟩
theorem put_grows (W : World) (l : Nat) (o : Obj) : W.grownBy (W.putObj l o) (some l) :=
  ⟨rfl, rfl, rfl, by simp, fun k _ hk => World.putObj_heap_other (fun e => hk (by rw [e]))⟩
theorem set_grows (W : World) (b : Nat) (v : Value) : W.grownBy (W.setCell ⟨b, 0, none⟩ v) (some b) :=
  ⟨rfl, rfl, rfl, (KeepsWalks.setCell W _ v).size, fun k _ hk => Below.heap_setCell _ _ _ k (fun e => hk (by rw [e]))⟩
theorem row_ne {W : World} {base : Nat} {e : TypeId} {size : Nat} {v : Value} {k : Nat} {xs : List Value} (h : W.ownsRow base e size v k xs) {j : Nat} {o : Obj} (hj : W.heap[j]? = some o) (hno : ∀ cur, o ≠ .cells cur e (0, 0)) :
    v.ownBlock = none ∨ v.ownBlock ≠ some j := by
  rcases h.2 with ⟨rfl, _⟩ | ⟨g, cap, cur, rfl, _, hgb, _⟩
  · exact .inl rfl
  · refine .inr fun e' => ?_
    have : g = j := by simpa [Value.ownBlock] using e'
    subst this; rw [hgb] at hj; cases hj; exact hno cur rfl
theorem box_cell {W : World} {B : Nat} {v : Value} {t : TypeId} (h : W.heap[B]? = some (.cells #[v] t (0, 0))) : W.cell? ⟨B, 0, none⟩ = some v ∧ W.frozen? ⟨B, 0, none⟩ = false := by
  constructor <;> simp [World.cell?, World.frozen?, h]
theorem box_set {W : World} {B : Nat} {v : Value} {t : TypeId} (v' : Value) (h : W.heap[B]? = some (.cells #[v] t (0, 0))) : (W.setCell ⟨B, 0, none⟩ v').heap[B]? = some (.cells #[v'] t (0, 0)) := by
  obtain ⟨hlt, hk⟩ := Array.getElem?_eq_some_iff.1 h
  show (W.heap.modify B _)[B]? = _
  rw [Array.getElem?_eq_getElem (by rw [Array.size_modify]; exact hlt), Array.getElem_modify_self, hk]
  rfl
theorem row_not_walk {W : World} {base : Nat} {e : TypeId} {size : Nat} {v : Value} {k : Nat} {xs : List Value} (h : W.ownsRow base e size v k xs) : ∀ (j : Nat) (o : Obj), v.ownBlock = some j → W.heap[j]? = some o → o.isWalk = false := by
  intro j o hj ho
  rcases h.2 with ⟨rfl, _⟩ | ⟨g, cap, cur, rfl, _, hgb, _⟩
  · simp [Value.ownBlock] at hj
  · have : g = j := by simpa [Value.ownBlock] using hj
    subst this; rw [hgb] at ho; cases ho; rfl

set_option maxRecDepth 100000 in
set_option maxHeartbeats 4000000 in
theorem apYield (F : Fence) (m : Nat) (w0 : World) (fn : FuncId) (hfn : F.fn fn) (sv : Value) (Bs l D : Nat) (hBl : Bs ≠ l) (hDl : D ≠ l) (hDB : D ≠ Bs) (h0B : w0.heap.size ≤ Bs) (h0l : w0.heap.size ≤ l)
    (N : Nat) (hN : N ≤ maxLen) (hNb : N * 88 ≤ 140737488355328) (ks : List Req) (x : Req) (W : World) (h : ApAt w0 fn sv Bs l D ks W) (hlen : ks.length < N) :
    YieldAt F m Tryz.prog l #[x.val] W fun e W' => e = .returned (.bool true) ∧ ApAt w0 fn sv Bs l D (ks ++ [x]) W' ∧ KeepsWalks W W' := by
  have hne : 30 ≠ 39 := by decide
  obtain ⟨i0, hi, hz0, hz1, hz2⟩ := info_parts req_info
  refine ⟨fn, #[.slice none 0 0, sv, .pointer (some ⟨Bs, 0, none⟩), undef, .slice none 0 0, undef, sv, x.val, undef, undef, undef, undef, undef], apAssign, apBody, by simpa [apRec] using run_yield (P := Tryz.prog) (args := #[x.val]) h.L rfl, roundIn_of_wpIn hfn ?_⟩
  obtain ⟨W1, hW1⟩ : ∃ W1, W.alloc (.cells x.cells 39) = W1 := ⟨_, rfl⟩
  have hA : ApAt w0 fn sv Bs l D ks W1 := by rw [← hW1]; exact ap_abides w0 fn sv Bs l D w0.heap.size (Nat.le_refl _) ks W _ none h (World.grownBy_alloc W _ none) (fun r e => by cases e)
  have hx1 : W1.heap[W.heap.size]? = some (.cells x.cells 39 (0, 0)) := by rw [← hW1]; exact heap_alloc_new W _
  have hk1 : KeepsWalks W W1 := by rw [← hW1]; exact KeepsWalks.alloc _ _
  have hl0 : l < W.heap.size := (Array.getElem?_eq_some_iff.1 h.L).1
  obtain ⟨v, hv, hrow, _⟩ := hA.box
  have hl : l < W1.heap.size := (Array.getElem?_eq_some_iff.1 hA.L).1
  have hbr := run_beginRound (P := Tryz.prog) hA.L rfl
  obtain ⟨W2, hW2⟩ : ∃ W2, W1.putObj l (.loop { apRec fn sv Bs D .ready none with state := .busy }) = W2 := ⟨_, rfl⟩
  rw [hW2] at hbr
  have hg2 : W1.grownBy W2 (some l) := by rw [← hW2]; exact put_grows _ _ _
  have hk2 : KeepsWalks W1 W2 := by rw [← hW2]; exact KeepsWalks.putObj _ hA.L rfl
  have hx2 : W2.heap[W.heap.size]? = some (.cells x.cells 39 (0, 0)) := by rw [← hW2]; exact (World.putObj_heap_other (by omega)).trans hx1
  have hv2 : W2.heap[Bs]? = some (.cells #[v] 30 (0, 0)) := by rw [← hW2]; exact (World.putObj_heap_other hBl).trans hv
  have hK2 : W2.heap[D]? = some (.deferred (some [])) := by rw [← hW2]; exact (World.putObj_heap_other hDl).trans hA.K
  have hL2 : W2.heap[l]? = some (.loop { apRec fn sv Bs D .ready none with state := .busy }) := by rw [← hW2]; exact World.putObj_heap_same hl
  have hrow2 : W2.ownsRow w0.heap.size 39 9 v ks.length (reqCells ks) := hrow.kept hg2 (row_ne hrow hA.L (fun cur e => by cases e))
  have hb2 : RowKit.Below w0.heap.size w0 W2 := hA.below.grown hg2 hA.below.size (fun k e => by cases e; exact h0l)
  obtain ⟨hc2, hf2⟩ := box_cell hv2
  have hBlt : Bs < W2.heap.size := (Array.getElem?_eq_some_iff.1 hv2).1
  have hl2 : l < W2.heap.size := (Array.getElem?_eq_some_iff.1 hL2).1
  have hDlt : D < W2.heap.size := (Array.getElem?_eq_some_iff.1 hK2).1
  have ne_of : ∀ {j : Nat} {o : Obj}, W2.heap[j]? = some o → (∀ cur, o ≠ .cells cur 39 (0, 0)) → some j ≠ v.ownBlock := fun hj hno => by
    rcases row_ne hrow2 hj hno with e | e
    · rw [e]; simp
    · exact fun e' => e e'.symm
  clear hW2
  have hrow3 := hrow2.alloc (.cells x.cells 39)
  have hnews := World.news_of_block (heap_alloc_new W2 (.cells x.cells 39))
  have hsz2 := hb2.size
  have e0 : W2.cell? ⟨W.heap.size, 0, none⟩ = some (.int .i64 x.server) := Lib.cell_of_heap hx2 0
  have e1 : W2.cell? ⟨W.heap.size, 1, none⟩ = some (.int .i64 x.seq) := Lib.cell_of_heap hx2 1
  have e2 : W2.cell? ⟨W.heap.size, 2, none⟩ = some (.bool x.cancel) := Lib.cell_of_heap hx2 2
  have e3 : W2.cell? ⟨W.heap.size, 3, none⟩ = some (.int .i64 x.student) := Lib.cell_of_heap hx2 3
  have e4 : W2.cell? ⟨W.heap.size, 4, none⟩ = some (.int .i64 x.term) := Lib.cell_of_heap hx2 4
  have e5 : W2.cell? ⟨W.heap.size, 5, none⟩ = some (.string x.code) := Lib.cell_of_heap hx2 5
  have e6 : W2.cell? ⟨W.heap.size, 6, none⟩ = some (.string x.give) := Lib.cell_of_heap hx2 6
  have e7 : W2.cell? ⟨W.heap.size, 7, none⟩ = some (.int .i64 x.priority) := Lib.cell_of_heap hx2 7
  have e8 : W2.cell? ⟨W.heap.size, 8, none⟩ = some (.int .i64 x.day) := Lib.cell_of_heap hx2 8
  rw [← hW1] at hbr
  unfold apAssign
  gi_wp2_with ((rw [Oper.semAt_eq _ _ _ (fun c h => by cases h)]; go_simp; try go_bits))
  refine ⟨W2, hbr, ?_⟩
  unfold apBody
  gi_wp2_with (first
    | (gi_at_builtin; refine wpListIn_append_own _ rfl _ _ 30 rfl w0.heap.size 39 i0 _ 9 88 Tryz.underlying30 hi hz0 hz1 hz2 rfl (by decide) _ _ _ rfl hrow3 ⟨W2.heap.size, 0, none⟩ 1 1 x.cells.toList rfl rfl hnews (req_one x) (by omega) (by omega) (by simp; omega) ?_; intro v' w3 hown' hg3 hnil3
       have hg3' : (W2.alloc (.cells x.cells 39)).grownBy w3 v.ownBlock := hg3
       have hv3 : w3.heap[Bs]? = some (.cells #[v] 30 (0, 0)) := (hg3'.block Bs (by simp; omega) (ne_of hv2 (fun cur e => by first | cases e | exact hne (Obj.cells.inj e).2.1))).trans ((Below.heap_alloc _ _ Bs hBlt).trans hv2)
       obtain ⟨hc3, hf3⟩ := box_cell hv3
       obtain ⟨g', cap', cur', rfl, hbase', hgb', hr1, hr2, hr3, hr4⟩ : ∃ g' cap' cur', v' = .slice (some ⟨g', 0, none⟩) (ks.length + 1) cap' ∧ w0.heap.size ≤ g' ∧ w3.heap[g']? = some (.cells cur' 39 (0, 0)) ∧ ks.length + 1 ≤ cap' ∧ cap' ≤ maxLen ∧ cur'.size = cap' * 9 ∧ cur'.toList.take ((ks.length + 1) * 9) = reqCells ks ++ x.cells.toList := by
         rcases hown'.2 with ⟨_, h0⟩ | h'
         · exact absurd h0 (by omega)
         · exact h'
       go_frame)
    | ((rw [Oper.semAt_eq _ _ _ (fun c h => by cases h)]; go_simp; try go_bits)))
  have hL3 : w3.heap[l]? = some (.loop { apRec fn sv Bs D .ready none with state := .busy }) := (hg3'.block l (by simp; omega) (ne_of hL2 (fun cur e => by cases e))).trans ((Below.heap_alloc _ _ l hl2).trans hL2)
  have hK3 : w3.heap[D]? = some (.deferred (some [])) := (hg3'.block D (by simp; omega) (ne_of hK2 (fun cur e => by cases e))).trans ((Below.heap_alloc _ _ D hDlt).trans hK2)
  obtain ⟨w4, hw4⟩ : ∃ w4, w3.setCell ⟨Bs, 0, none⟩ (.slice (some ⟨g', 0, none⟩) (ks.length + 1) cap') = w4 := ⟨_, rfl⟩
  rw [hw4]
  have hg4 : w3.grownBy w4 (some Bs) := by rw [← hw4]; exact set_grows _ _ _
  have hv4 : w4.heap[Bs]? = some (.cells #[.slice (some ⟨g', 0, none⟩) (ks.length + 1) cap'] 30 (0, 0)) := by rw [← hw4]; exact box_set _ hv3
  have hL4 : w4.heap[l]? = some (.loop { apRec fn sv Bs D .ready none with state := .busy }) := (hg4.block l (Array.getElem?_eq_some_iff.1 hL3).1 (fun e => hBl (by cases e; rfl))).trans hL3
  have hK4 : w4.heap[D]? = some (.deferred (some [])) := (hg4.block D (Array.getElem?_eq_some_iff.1 hK3).1 (fun e => hDB (by cases e; rfl))).trans hK3
  have hrow4 := hown'.kept hg4 (row_ne hown' hv3 (fun cur e => by first | cases e | exact hne (Obj.cells.inj e).2.1))
  have hl4 : l < w4.heap.size := (Array.getElem?_eq_some_iff.1 hL4).1
  have hb3 : RowKit.Below w0.heap.size w0 w3 := (hb2.alloc hb2.size _).grown hg3' (by simp; omega) (fun k e => (hrow2.lt k e).1)
  have hb4 : RowKit.Below w0.heap.size w0 w4 := hb3.grown hg4 hb3.size (fun k e => by cases e; exact h0B)
  have hk4 : KeepsWalks W w4 := (((hk1.trans hk2).trans (KeepsWalks.alloc _ _)).trans (KeepsWalks.of_grownBy hg3' (row_not_walk hrow3))).trans (by rw [← hw4]; exact KeepsWalks.setCell _ _ _)
  clear hw4
  refine ⟨_, _, run_endRound none hL4, rfl, ⟨⟨_, (World.putObj_heap_other hBl).trans hv4, ?_, by simp⟩, World.putObj_heap_same hl4, (World.putObj_heap_other hDl).trans hK4, hb4.grown (put_grows _ _ _) hb4.size (fun k e => by cases e; exact h0l)⟩, hk4.trans (KeepsWalks.putObj _ hL4 rfl)⟩
  have := hrow4.kept (put_grows w4 l (.loop { { apRec fn sv Bs D .ready none with state := .busy } with state := if (none : Option Code).isNone then .ready else .done, pending := none })) (row_ne hrow4 hL4 (fun cur e => by cases e))
  rw [reqCells_snoc]
  simpa using this
end Go.Proofs.YteopjiedjnaeiaaGreat
/- slices.AppendSeq and slices.Collect over requests, against whatever iterator. -/
namespace Go.Proofs.YteopjiedjnaeiaaGreat
open Go Go.Proofs Go.RowKit Go.Maps Go.Sort Go.Lib

/-- As SeqGives, for an invariant that keeps the old blocks. -/
def SeqGivesB {α : Type} (F : Fence) (n : Nat) (P : Program) (g : Nat) (lb : Array Value) (enc : α → Value) (S : List α → Prop) (N : Nat) (w : World) : Prop :=
  ∀ (l : Nat) (J : List α → World → Prop) (W : World), RowKit.Below w.heap.size w W → AbidesFrom W.heap.size J → (∀ pre W1, J pre W1 → RowKit.Below w.heap.size w W1) →
    (∀ pre x W1, J pre W1 → pre.length < N → YieldAt F (n - 1) P l #[enc x] W1 fun e W' => e = .returned (.bool true) ∧ J (pre ++ [x]) W' ∧ KeepsWalks W1 W') →
    J [] W →
    CallsIn F n P g (#[.func (.yield l) #[] #[]] ++ lb) W fun e W' => (∃ v, e = .returned v) ∧ ∃ xs, S xs ∧ J xs W'
theorem seqB {α : Type} {F : Fence} {n : Nat} {P : Program} {g : Nat} {lb : Array Value} {enc : α → Value} {S : List α → Prop} {N : Nat} {w : World} (h : SeqGives F n P g lb enc S N w) : SeqGivesB F n P g lb enc S N w :=
  fun l J W hW hJ _ hY h0 => h l J W hW hJ hY h0
set_option maxRecDepth 100000 in
set_option maxHeartbeats 4000000 in
theorem appendSeq_in (F : Fence) (n : Nat) (h11 : F.fn 50) (hro : F.round = none) (hn : 2 ≤ n) (g : Nat) (lb : Array Value) (hFg : F.fn g) (eg : ∀ args w, (callFunc g args).run Tryz.prog w = .ok (.enter g args) w)
    (S : List Req → Prop) (N : Nat) (hN : N ≤ maxLen) (hNb : N * 88 ≤ 140737488355328) (w : World) (hseq : SeqGivesB F (n - 1) Tryz.prog g lb Req.val S N w) :
    CallsIn F n Tryz.prog 50 #[.slice none 0 0, .func (.func g) #[] lb] w fun e w' => ∃ (v : Value) (ks : List Req), e = .returned v ∧ S ks ∧ w'.ownsRow w.heap.size 39 9 v ks.length (reqCells ks) ∧ (v = .slice none 0 0 ↔ ks = []) ∧ RowKit.Below w.heap.size w w' := by
  have h1 : 1 ≤ n := by omega
  have hne : 30 ≠ 39 := by decide
  refine callsIn_of_wp_marks Tryz.func50 rfl h11 ?_ hro
  simp only [Tryz.ntmps50, List.size_toArray, List.length_cons, List.length_nil, Nat.reduceAdd, Nat.reduceSub, Array.replicate_succ, Array.replicate_zero, List.push_toArray, List.append_toArray, List.nil_append, List.cons_append]
  gi_wp2
  refine wpIn_rangeFunc ?_
  intro fn hfn
  rw [hro]
  obtain ⟨W0, hW0⟩ : ∃ W0, w.alloc (.cells #[.slice none 0 0] 30) = W0 := ⟨_, rfl⟩
  have hs0 : W0.heap.size = w.heap.size + 1 := by rw [← hW0]; simp
  have hv0 : W0.heap[w.heap.size]? = some (.cells #[.slice none 0 0] 30 (0, 0)) := by rw [← hW0]; exact World.alloc_heap_new w _
  have hb0 : RowKit.Below w.heap.size w W0 := by rw [← hW0]; exact (Below.refl _ w).alloc (Nat.le_refl _) _
  rw [hW0]
  obtain ⟨W1, hW1⟩ : ∃ W1, (W0.alloc (.deferred (some []))).alloc (.loop (apRec fn (.func (.func g) #[] lb) w.heap.size W0.heap.size .ready none)) = W1 := ⟨_, rfl⟩
  have hold : ∀ k, k < W0.heap.size → W1.heap[k]? = W0.heap[k]? := fun k hk => by
    rw [← hW1]; exact (Below.heap_alloc _ _ k (by simp; omega)).trans (Below.heap_alloc _ _ k hk)
  have hb1 : RowKit.Below w.heap.size w W1 := by rw [← hW1]; exact (hb0.alloc hb0.size _).alloc (by have := hb0.size; simp; omega) _
  have hs1 : W1.heap.size = W0.heap.size + 2 := by rw [← hW1]; simp
  have hM : ApAt w fn (.func (.func g) #[] lb) w.heap.size (W0.heap.size + 1) W0.heap.size [] W1 :=
    ⟨⟨_, (hold w.heap.size (by omega)).trans hv0, ⟨rfl, .inl ⟨rfl, rfl⟩⟩, by simp⟩,
     by rw [← hW1]; have := World.alloc_heap_new (W0.alloc (.deferred (some []))) (.loop (apRec fn (.func (.func g) #[] lb) w.heap.size W0.heap.size .ready none)); rwa [World.size_alloc] at this,
     by rw [← hW1]; exact (Below.heap_alloc _ _ _ (by simp)).trans (World.alloc_heap_new W0 _), hb1⟩
  refine ⟨W0.heap.size + 1, [{ target := .collected W0.heap.size, args := #[] }], W1, { target := .fn (.func g) lb, args := #[.func (.yield (W0.heap.size + 1)) #[] #[]] }, W1, g,
    #[.func (.yield (W0.heap.size + 1)) #[] #[]] ++ lb, W1, ?_, ?_, ?_, ?_, fun _ => h1, ?_⟩
  · rw [← hW1]; exact run_enterLoop_outer _ _ _ _ _
  · simp [resolve, go_sem]
  · intro f' hf'; simp [Target.leads] at hf'; subst hf'; exact hFg
  · simp [invoke, go_sem, eg]
  · refine (hseq (W0.heap.size + 1) (ApAt w fn (.func (.func g) #[] lb) w.heap.size (W0.heap.size + 1) W0.heap.size) W1 hb1 (ap_abides _ _ _ _ _ _ _ hb1.size) (fun _ _ hJ => hJ.below)
      (fun pre x W hJ hl => apYield F (n - 1 - 1) w fn hfn _ w.heap.size (W0.heap.size + 1) W0.heap.size (by omega) (by omega) (by omega) (Nat.le_refl _) (by omega) N hN hNb pre x W hJ hl) hM).mono ?_
    rintro e W2 ⟨⟨v0, rfl⟩, ks, hS, h2⟩
    obtain ⟨v, hv, hrow, hnil⟩ := h2.box
    have hend := run_endLoop (P := Tryz.prog) h2.L (by simp [apRec])
    obtain ⟨W3, hW3⟩ : ∃ W3, W2.putObj (W0.heap.size + 1) (.loop { apRec fn (.func (.func g) #[] lb) w.heap.size W0.heap.size .ready none with state := .exhausted }) = W3 := ⟨_, rfl⟩
    rw [hW3] at hend
    have hg3 : W2.grownBy W3 (some (W0.heap.size + 1)) := by rw [← hW3]; exact put_grows _ _ _
    have hv3 : W3.heap[w.heap.size]? = some (.cells #[v] 30 (0, 0)) := by rw [← hW3]; exact (World.putObj_heap_other (by omega)).trans hv
    have hK3 : W3.heap[W0.heap.size]? = some (.deferred (some [])) := by rw [← hW3]; exact (World.putObj_heap_other (by omega)).trans h2.K
    have hrow3 := hrow.kept hg3 (row_ne hrow h2.L (fun cur e => by cases e))
    have hb3 : RowKit.Below w.heap.size w W3 := h2.below.grown hg3 h2.below.size (fun k e => by cases e; omega)
    obtain ⟨hc3, hf3⟩ := box_cell hv3
    clear hW3
    refine ⟨none, W3, hend, ?_⟩
    gi_wp2
    rw [← hs0]
    refine ⟨by simp, .inl ⟨_, _, rfl, run_takeDeferred hK3, ?_⟩⟩
    exact ⟨_, results_tmp rfl _ _ _, v, ks, rfl, hS, hrow3.kept (put_grows _ _ _) (row_ne hrow3 hK3 (fun cur e => by cases e)), hnil, hb3.grown (put_grows _ _ _) hb3.size (fun k e => by cases e; omega)⟩

set_option maxRecDepth 100000 in
set_option maxHeartbeats 1000000 in
theorem collect_in (F : Fence) (n : Nat) (h8 : F.fn 35) (h11 : F.fn 50) (hro : F.round = none) (hn : 3 ≤ n) (g : Nat) (lb : Array Value) (hFg : F.fn g) (eg : ∀ args w, (callFunc g args).run Tryz.prog w = .ok (.enter g args) w)
    (S : List Req → Prop) (N : Nat) (hN : N ≤ maxLen) (hNb : N * 88 ≤ 140737488355328) (w : World) (hseq : SeqGivesB F (n - 1 - 1) Tryz.prog g lb Req.val S N w) :
    CallsIn F n Tryz.prog 35 #[.func (.func g) #[] lb] w fun e w' => ∃ (v : Value) (ks : List Req), e = .returned v ∧ S ks ∧ w'.ownsRow w.heap.size 39 9 v ks.length (reqCells ks) ∧ (v = .slice none 0 0 ↔ ks = []) ∧ RowKit.Below w.heap.size w w' := by
  have h1 : 1 ≤ n := by omega
  have e11 : ∀ args w, (callFunc 50 args).run Tryz.prog w = .ok (.enter 50 args) w := enters_of Tryz.func50 (by kernel_rfl) rfl
  refine callsIn_of_wp Tryz.func35 rfl h8 ?_ hro
  simp only [Tryz.ntmps35, List.size_toArray, List.length_cons, List.length_nil, Nat.reduceAdd, Nat.reduceSub, Array.replicate_succ, Array.replicate_zero, List.push_toArray, List.append_toArray, List.nil_append, List.cons_append]
  gi_wp2_with (gi_at_call 50; refine (appendSeq_in F (n - 1) h11 hro (by omega) g lb hFg eg S N hN hNb _ hseq).mono ?_; rintro e w' ⟨v, ks, rfl, hS, hrow, hnil, hb⟩)
  go_ret
  exact ⟨v, ks, rfl, hS, hrow, hnil, hb⟩
end Go.Proofs.YteopjiedjnaeiaaGreat
/- slices.SortedFunc(maps.Keys(m), compare): the keys of m, in order. -/
namespace Go.Proofs.YteopjiedjnaeiaaGreat
open Go Go.Proofs Go.RowKit Go.Maps Go.Sort Go.Lib

theorem reqCells_len (ks : List Req) : (reqCells ks).length = ks.length * 9 := by
  induction ks with
  | nil => rfl
  | cons r l ih =>
    show (r.cells.toList ++ reqCells l).length = _
    rw [List.length_append, ih]
    show 9 + _ = _
    simp only [List.length_cons]; omega
theorem reqCells_get : ∀ (ks : List Req) (t : Nat), (reqCells ks)[t]? = (ks[t / 9]?).bind (fun r => r.cells.toList[t % 9]?)
  | [], t => by simp [reqCells]
  | r :: l, t => by
    show (r.cells.toList ++ reqCells l)[t]? = _
    have h9 : r.cells.toList.length = 9 := rfl
    by_cases ht : t < 9
    · rw [List.getElem?_append_left (by omega), show t / 9 = 0 by omega, show t % 9 = t by omega]; rfl
    · rw [List.getElem?_append_right (by omega), h9, reqCells_get l (t - 9), show t / 9 = (t - 9) / 9 + 1 by omega, show t % 9 = (t - 9) % 9 by omega]; rfl
theorem flat_eq (ks : List Req) : flatK encR 9 ks.toArray = (reqCells ks).toArray := by
  apply Array.ext
  · simp [reqCells_len]
  · intro t h1 h2
    have hl : t < ks.length * 9 := by simpa using h1
    have hk : t / 9 < ks.length := by omega
    have hg := reqCells_get ks t
    rw [List.getElem?_eq_getElem hk, List.getElem?_eq_getElem (by rw [reqCells_len]; exact hl)] at hg
    simp only [Option.bind_some] at hg
    have h9 : t % 9 < (ks[t / 9]).cells.toList.length := by show t % 9 < 9; omega
    rw [List.getElem?_eq_getElem h9] at hg
    simp only [Option.some.injEq] at hg
    have h3 : (flatK encR 9 ks.toArray)[t] = (encR ks.toArray[t / 9]!)[t % 9]! := by
      have := get_flatK encR 9 ks.toArray t (by simpa using hl)
      rwa [getElem!_pos _ t h1] at this
    rw [h3]
    simp only [List.getElem_toArray]
    rw [hg, getElem!_pos ks.toArray (t / 9) (by simpa using hk)]
    simp only [List.getElem_toArray, encR]
    rw [getElem!_pos _ (t % 9) h9]
theorem holdsK_of_block {w : World} {g : Nat} {cur : Array Value} {e : TypeId} {ks : List Req} (hb : w.heap[g]? = some (.cells cur e (0, 0))) (ht : cur.toList.take (ks.length * 9) = reqCells ks) : HoldsK encR 9 w g 0 ks.toArray := by
  unfold HoldsK
  rw [flat_eq]
  intro j hj
  have hj' : j < (reqCells ks).length := by simpa using hj
  have hj9 : j < ks.length * 9 := by rwa [reqCells_len] at hj'
  refine ⟨?_, by simp [World.frozen?, hb]⟩
  have h1 : (cur.toList.take (ks.length * 9))[j]? = (reqCells ks)[j]? := by rw [ht]
  rw [List.getElem?_take_of_lt hj9] at h1
  simp only [World.cell?, hb, Nat.zero_add]
  simp only [Option.isSome_none, Bool.false_eq_true, if_false]
  rw [← Array.getElem?_toList, h1, List.getElem?_eq_getElem hj', getElem!_pos _ j hj]
  simp
theorem take_put (cur : Array Value) (xs : List Value) (h : xs.length ≤ cur.size) : (putCells id 0 xs.toArray cur).toList.take xs.length = xs := by
  apply List.ext_getElem?
  intro j
  by_cases hj : j < xs.length
  · rw [List.getElem?_take_of_lt hj, Array.getElem?_toList]
    simp [putCells, hj, show j < cur.size by omega]
  · rw [List.getElem?_take_eq_none (by omega), List.getElem?_eq_none (by omega)]
theorem heap_sortK {w : World} {g n : Nat} {os : Array Obj} {cur : Array Value} {e : TypeId} {fr : Nat × Nat} (ts : List Req) (hb : w.heap[g]? = some (.cells cur e fr)) :
    (sortWorldK encR 9 w g 0 n ts.toArray os).heap[g]? = some (.cells (putCells id 0 (reqCells ts).toArray cur) e fr) := by
  have hg : g < w.heap.size := (Array.getElem?_eq_some_iff.1 hb).1
  unfold sortWorldK putRowK
  rw [flat_eq, heap_grow_old _ _ (by simpa using hg)]
  simp [putRow, mapBlock, Sort.ahead, Array.getElem?_modify, hb, onCells]
theorem grownBy_sortK {w : World} {g n : Nat} {os : Array Obj} (d : Array Req) : w.grownBy (sortWorldK encR 9 w g 0 n d os) (some g) := by
  unfold sortWorldK putRowK
  refine ⟨rfl, rfl, rfl, by simp, fun k hk hne => ?_⟩
  rw [heap_grow_old _ _ (by simpa using hk)]
  have : g ≠ k := fun e => hne (by rw [e])
  simp [putRow, mapBlock, Sort.ahead, Array.getElem?_modify, this]
/-- Behind the sort the same slice owns the sorted list. -/
theorem ownsRow_sortK {w : World} {base g cap n : Nat} {e : TypeId} {os : Array Obj} {cur : Array Value} {ks ts : List Req} (hl : ts.length = ks.length) (hbase : base ≤ g) (hb : w.heap[g]? = some (.cells cur e (0, 0)))
    (h1 : ks.length ≤ cap) (h2 : cap ≤ maxLen) (h3 : cur.size = cap * 9) :
    (sortWorldK encR 9 w g 0 n ts.toArray os).ownsRow base e 9 (.slice (some ⟨g, 0, none⟩) ks.length cap) ks.length (reqCells ts) :=
  ⟨by rw [reqCells_len, hl], .inr ⟨g, cap, _, rfl, hbase, heap_sortK _ hb, h1, h2, by simp [putCells, h3], by rw [← hl, ← reqCells_len]; exact take_put cur _ (by rw [reqCells_len]; omega)⟩⟩
theorem sortR_len (ks : List Req) : (sortR ks).length = ks.length := List.length_mergeSort ks
end Go.Proofs.YteopjiedjnaeiaaGreat
namespace Go.Proofs.YteopjiedjnaeiaaGreat
open Go Go.Proofs Go.RowKit Go.Maps Go.Sort Go.Lib

/-- slices.SortFunc's two contracts, inside a fence. -/
def SortsIn (F : Fence) (m : Nat) : Prop :=
  (∀ (blk off cap : Nat) (ks : List Req) (W : World), HoldsK encR 9 W blk off ks.toArray → blk < W.heap.size → ks.length < 4611686018427387904 →
    CallsIn F m Tryz.prog 77 #[.slice (some ⟨blk, off, none⟩) ks.length cap, .func (.func 69) #[] #[]] W fun e w' => e = .returned (.tuple #[]) ∧ ∃ k os, w' = sortWorldK encR 9 W blk off k (sortR ks).toArray os) ∧
  (∀ (p : Option Addr) (cap : Nat) (W : World), CallsIn F m Tryz.prog 77 #[.slice p 0 cap, .func (.func 69) #[] #[]] W fun e w' => e = .returned (.tuple #[]) ∧ w' = W)
theorem sorts_wide (m : Nat) : SortsIn Fence.wide m :=
  ⟨fun blk off cap ks W hH hblk hsz => callsIn_wide.2 (sort_any blk off cap ks.toArray W hH hblk (by simpa using hsz)),
   fun p cap W => callsIn_wide.2 (AnyF.slices_SortFunc_none Tryz.sortReq p cap _ W)⟩
set_option maxRecDepth 100000 in
set_option maxHeartbeats 2000000 in
theorem sortedFunc_in (F : Fence) (n : Nat) (h6 : F.fn 67) (h8 : F.fn 35) (_h9 : F.fn 77) (h11 : F.fn 50) (hro : F.round = none) (hn : 4 ≤ n) (hsort : SortsIn F (n - 1)) (g : Nat) (lb : Array Value) (hFg : F.fn g) (eg : ∀ args w, (callFunc g args).run Tryz.prog w = .ok (.enter g args) w)
    (S : List Req → Prop) (N : Nat) (hN : N ≤ maxLen) (hNb : N * 88 ≤ 140737488355328) (w : World) (hseq : SeqGives F (n - 1 - 1 - 1) Tryz.prog g lb Req.val S N w) (hSN : ∀ ks, S ks → ks.length ≤ N) :
    CallsIn F n Tryz.prog 67 #[.func (.func g) #[] lb, .func (.func 69) #[] #[]] w fun e w' => ∃ (v : Value) (ks : List Req), e = .returned v ∧ S ks ∧
      w'.ownsRow w.heap.size 39 9 v ks.length (reqCells (sortR ks)) ∧ (v = .slice none 0 0 ↔ ks = []) ∧ RowKit.Below w.heap.size w w' := by
  have h1 : 1 ≤ n := by omega
  refine callsIn_of_wp Tryz.func67 rfl h6 ?_ hro
  simp only [Tryz.ntmps67, List.size_toArray, List.length_cons, List.length_nil, Nat.reduceAdd, Nat.reduceSub, Array.replicate_succ, Array.replicate_zero, List.push_toArray, List.append_toArray, List.nil_append, List.cons_append]
  gi_wp2_with (gi_at_call 35; refine (collect_in F (n - 1) h8 h11 hro (by omega) g lb hFg eg _ N hN hNb _ (seqB hseq)).mono ?_; rintro e W ⟨v, ks, rfl, hS, hrow, hnil, hb⟩)
  have hlen := hSN ks hS
  rcases hrow.2 with ⟨rfl, hz⟩ | ⟨gb, cap, cur, rfl, hbase, hgb, r1, r2, r3, r4⟩
  · have hss : ks = [] := List.eq_nil_of_length_eq_zero hz
    subst hss
    gi_wp2_with (gi_at_call 77; refine (hsort.2 none 0 W).mono ?_; rintro e w' ⟨rfl, rfl⟩)
    go_ret
    exact ⟨.slice none 0 0, [], rfl, hS, by simpa [sortR] using hrow, by simp, hb⟩
  · have hH : HoldsK encR 9 W gb 0 ks.toArray := holdsK_of_block hgb r4
    have hgl : gb < W.heap.size := (Array.getElem?_eq_some_iff.1 hgb).1
    have hsz : ks.length < 4611686018427387904 := by omega
    have cS := hsort.1 gb 0 cap ks W hH hgl hsz
    gi_wp2_with (gi_at_call 77; refine cS.mono ?_; rintro e w' ⟨rfl, nn, os, rfl⟩)
    go_ret
    exact ⟨_, ks, rfl, hS, ownsRow_sortK (sortR_len ks) hbase hgb r1 r2 r3, hnil, hb.grown (grownBy_sortK _) hb.size (fun j hj => by cases hj; exact hbase)⟩
theorem row_base {W : World} {base base' : Nat} {e : TypeId} {size : Nat} {v : Value} {k : Nat} {xs : List Value} (h : W.ownsRow base e size v k xs) (hb : base' ≤ base) : W.ownsRow base' e size v k xs :=
  ⟨h.1, h.2.imp id (fun ⟨g, cap, cur, hv, hbg, rest⟩ => ⟨g, cap, cur, hv, Nat.le_trans hb hbg, rest⟩)⟩
theorem nodup_le {α : Type} : ∀ (l m : List α), l.Nodup → (∀ x ∈ l, x ∈ m) → l.length ≤ m.length
  | [], _, _, _ => Nat.zero_le _
  | x :: l, m, hn, hs => by
    obtain ⟨a, b, rfl⟩ := List.append_of_mem (hs x (by simp))
    have hx : x ∉ l := (List.nodup_cons.1 hn).1
    have := nodup_le l (a ++ b) (List.nodup_cons.1 hn).2 (fun y hy => by
      have h := hs y (by simp [hy])
      simp only [List.mem_append, List.mem_cons] at h ⊢
      rcases h with h | rfl | h
      · exact .inl h
      · exact absurd hy hx
      · exact .inr h)
    simp only [List.length_append, List.length_cons] at this ⊢
    omega
theorem KeysR.len {es : List (Lit × DataW Unit)} {ks : List Req} (h : KeysR (.map es) ks) : ks.length ≤ Maps.size (.map es) := by
  obtain ⟨h1, h2, h3⟩ := h
  show ks.length ≤ es.length
  have hsub : ∀ r ∈ ks.map litR, r ∈ es.map (·.1) := by
    intro l hl
    obtain ⟨r, hr, rfl⟩ := List.mem_map.1 hl
    have hh := (h3 r (h2 r hr)).1 hr
    rw [Maps.has_eq, List.any_eq_true] at hh
    obtain ⟨p, hp, hs⟩ := hh
    refine List.mem_map.2 ⟨p, hp, ?_⟩
    obtain ⟨q, d⟩ := p
    cases q <;> simp [litR, Lit.sameKey] at hs ⊢
    exact hs
  have hnd : (ks.map litR).Nodup := by
    refine List.pairwise_map.2 (h1.imp_of_mem fun {a b} ha hb hne e => hne (litR_inj (h2 a ha) (h2 b hb) e))
  have := nodup_le _ _ hnd hsub
  simpa using this
set_option maxRecDepth 100000 in
set_option maxHeartbeats 2000000 in
theorem sorted_in (F : Fence) (n : Nat) (h3 : F.fn 52) (h6 : F.fn 67) (h7 : F.fn 68) (h8 : F.fn 35) (h9 : F.fn 77) (h10 : F.fn 78) (h11 : F.fn 50) (hro : F.round = none) (hn : 6 ≤ n) (hsort : SortsIn F (n - 1 - 1))
    (b nn : Nat) (es : List (Lit × DataW Unit)) (w : World) (hown : w.ownsMap Tryz.prog 39 (plainElem Tryz.prog 4) b nn (.map es)) (hmax : Maps.size (.map es) ≤ maxLen) (hbytes : Maps.size (.map es) * 88 ≤ 140737488355328) :
    CallsIn F n Tryz.prog 52 #[.map (some b)] w fun e w' => ∃ (v : Value) (ks : List Req), e = .returned v ∧ KeysR (.map es) ks ∧ w'.ownsRow w.heap.size 39 9 v ks.length (reqCells (sortR ks)) ∧ (v = .slice none 0 0 ↔ ks = []) ∧ RowKit.Below w.heap.size w w' := by
  have h1 : 1 ≤ n := by omega
  have hbl := hown.lt
  have hseq : SeqGives F (n - 1 - 1 - 1 - 1) Tryz.prog 78 #[.pointer (some ⟨w.heap.size, 0, none⟩)] Req.val (KeysR (.map es)) (Maps.size (.map es)) (w.alloc (.cells #[.map (some b)] 103)) :=
    keys_gives F _ h10 hro (by omega) w.heap.size b nn (.map es) _ (by simp) (by simp) (hown.alloc _)
  refine callsIn_of_wp Tryz.func52 rfl h3 ?_ hro
  simp only [Tryz.ntmps52, List.size_toArray, List.length_cons, List.length_nil, Nat.reduceAdd, Nat.reduceSub, Array.replicate_succ, Array.replicate_zero, List.push_toArray, List.append_toArray, List.nil_append, List.cons_append]
  gi_wp2_with (first
    | (gi_at_call 68; refine (keys_in F (n - 1) h7 hro _ _).mono ?_; rintro e w' ⟨rfl, rfl⟩)
    | (gi_at_call 67; refine (sortedFunc_in F (n - 1) h6 h8 h9 h11 hro (by omega) hsort 78 _ h10 (enters_of Tryz.func78 (by kernel_rfl) rfl) _ _ hmax hbytes _ hseq (fun ks h => h.len)).mono ?_; rintro e w' ⟨v, ks, rfl, hS, hrow, hnil, hb⟩))
  go_ret
  exact ⟨v, ks, rfl, hS, row_base hrow (by simp), hnil, ((Below.refl _ w).alloc (Nat.le_refl _) _).trans (hb.mono (by simp))⟩
/-- request.sorted: the keys of the map, in order, in a row of the call's own. -/
theorem sorted_any (b nn : Nat) (es : List (Lit × DataW Unit)) (w : World) (hown : w.ownsMap Tryz.prog 39 (plainElem Tryz.prog 4) b nn (.map es)) (hmax : Maps.size (.map es) ≤ maxLen) (hbytes : Maps.size (.map es) * 88 ≤ 140737488355328) :
    Calls Tryz.prog 52 #[.map (some b)] w fun e w' => ∃ (v : Value) (ks : List Req), e = .returned v ∧ KeysR (.map es) ks ∧ w'.ownsRow w.heap.size 39 9 v ks.length (reqCells (sortR ks)) ∧ (v = .slice none 0 0 ↔ ks = []) ∧ RowKit.Below w.heap.size w w' :=
  callsIn_wide.1 (sorted_in Fence.wide 6 trivial trivial trivial trivial trivial trivial trivial rfl (Nat.le_refl _) (sorts_wide _) b nn es w hown hmax hbytes)
end Go.Proofs.YteopjiedjnaeiaaGreat
