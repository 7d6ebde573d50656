/- From 'it returned true and below the old heap nothing has turned' to the row's post; arguments opened by their outer form; the table off the row's condition. -/
import Derived.Test.YtbihaoadgcckhaaGreatMkCs
import Derived.Lib.SmallJoins
import Derived.ProofKit
import Derived.LaidMore
import Derived.LaidSub
import Derived.LaidHandle
import Derived.OpenShut
import Derived.Carry
import Derived.ChangeSame
import Derived.Stop.Joined
namespace Go.Proofs.YtbihaoadgcckhaaGreat
open Go Go.ChangeShapes Go.WideShapes Go.ChangeAt Go.WideElems Go.RowKit Go.Lib

theorem A_laidOut : laidOutB Tryz.prog = true := by kernel_rfl
theorem own : ownKnob Tryz.prog.godebug = none := by kernel_rfl

section
variable {H : Type} {enc : TypeId × Value → H} {P : Program}
theorem trodAll_stays (hl : laidOutB P = true) {W W' : World} {sp' : Nat → Bool} : ∀ {ts : List TypeId} {vs : List Value} {ds : List (DataW H)} {ps : List MemPlace},
    (∀ t ∈ ts, P.readableRec t = true ∧ t < P.types.size) → DataW.TrodAll enc P W 0 (fun _ => true) true ts vs ds ps → (∀ p ∈ ps, W.sameAt W' p) → (∀ p ∈ ps, sp' p.block = true) → DataW.TrodAll enc P W' 0 sp' true ts vs ds ps
  | [], [], [], _, _, h, _, _ => h
  | [], [], _ :: _, _, _, h, _, _ => h.elim
  | [], _ :: _, _, _, _, h, _, _ => h.elim
  | _ :: _, [], _, _, _, h, _, _ => h.elim
  | _ :: _, _ :: _, [], _, _, h, _, _ => h.elim
  | t :: ts, v :: vs, d :: ds, ps, ht, h, h1, h2 => by
    obtain ⟨p, q, hp, hq, rfl⟩ := h
    exact ⟨p, q, Trod_stays hl (ht t (by simp)).1 (ht t (by simp)).2 hp (fun x hx => h1 x (by simp [hx])) (fun x hx => h2 x (by simp [hx])),
      trodAll_stays hl (fun u hu => ht u (by simp [hu])) hq (fun x hx => h1 x (by simp [hx])) (fun x hx => h2 x (by simp [hx])), rfl⟩

/-- The post of a law: true, the arguments read as they did. -/
theorem law_post {f : Func} {s : ChangeSpec} {W W' : World} {args : Array Value} {ds : List (DataW H)} {p : List MemPlace} {tb : TypeId} (hl : laidOutB P = true)
    (hts : ∀ t ∈ f.params.toList, P.readableRec t = true ∧ t < P.types.size) (hv : s.vars = []) (hr : f.resultTypes = #[tb]) (hb : P.underlying tb = some .bool)
    (hf : s.fn H (ds ++ []) = { results := [.lit (.bool true)], args := ds })
    (hW : DataW.Whole enc P f.params.toList s.vars false W args.toList ds [] p) (hA : DataW.TrodAll enc P W 0 (fun _ => true) true f.params.toList args.toList ds p) (hbe : Below W.heap.size W W') :
    s.post enc P f false true false false W args (.bool true) W' := by
  have hlt : ∀ x ∈ p, x.block < W.heap.size := fun x hx => hW.lt x hx
  have hsame : ∀ x ∈ p, W.sameAt W' x := fun x hx => hbe.same (hlt x hx)
  have hargs : ∀ sp : Nat → Bool, (∀ x ∈ p, sp x.block = true) → DataW.TrodAll enc P W' 0 sp true f.params.toList args.toList (s.fn H (ds ++ [])).args p := fun sp h => by
    rw [hf]; exact trodAll_stays hl hts hA hsame h
  have hvars : ∀ sp : Nat → Bool, DataW.TrodVars enc P W' sp s.vars (s.fn H (ds ++ [])).vars [] := fun sp => by
    rw [hf, hv]; rfl
  have hold : ∀ x ∈ p, (fun b => decide (b < W.heap.size)) x.block = true := fun x hx => by simpa using hlt x hx
  have hres : ∀ (b : Nat) (sp : Nat → Bool) (hd : Bool), DataW.TrodAll enc P W' b sp hd f.resultTypes.toList ((Value.bool true).resultList f.resultTypes.size) (s.fn H (ds ++ [])).results [] := fun b sp hd => by
    rw [hf, hr]; exact trodAll_mk1 (shut_bool hb true)
  refine ⟨ds, [], p, [], p, [], hW, hres _ _ _, hargs _ hold, hvars _, World.keptBut_mono (fun x hx => ⟨hx, ?_⟩) (hbe.frame (· ∈ p)), fun _ => ?_⟩
  · simpa using hx
  · obtain ⟨_, _, _, _, _, hz, hn⟩ := hW
    refine ⟨ok_one hr rfl (okWide_bool_mk hb _), _, _, ([] ++ p) ++ [], ⟨[] ++ p, [], trodAll_append (hargs _ (fun _ _ => rfl)) (hres _ _ _), hvars _, rfl, ?_, ?_⟩, ?_⟩
    · intro b off hp
      have hin : MemPlace.cell b off ∈ p := by simpa using hp
      rw [hbe.frozen (hlt _ hin)]
      exact hz b off hin
    · intro ha; simpa using hn ha
    · intro x hx _; simpa using hx
end

/-! Arguments by their outer form. -/
section
variable {P : Program} {w : World} {r : Reach} {b0 : Nat} {t : TypeId}
theorem cell_int {k : IntKind} {v : Value} (ht : P.underlying t = some (.int k)) (h : Cell.okWide P w r b0 t v) : ∃ n, v = .int k n ∧ k.has n := by
  unfold Cell.okWide at h
  rw [ht] at h
  unfold Cell.ok at h
  rw [ht] at h
  cases v <;> simp_all
theorem cell_string {v : Value} (ht : P.underlying t = some .string) (h : Cell.okWide P w r b0 t v) : ∃ s, v = .string s ∧ (s.size : Int) ≤ IntKind.i64.max := by
  unfold Cell.okWide at h
  rw [ht] at h
  unfold Cell.ok at h
  rw [ht] at h
  cases v <;> simp_all
end
theorem has_i64 {n : Int} (h : IntKind.i64.has n) : I64 n := by
  simp [IntKind.has, IntKind.min, IntKind.max, IntKind.signed, IntKind.bits] at h
  unfold I64; omega

theorem no_path {w : World} {a : Addr} {v : Value} (h : w.cell? a = some v) : ∃ b o, a = ⟨b, o, none⟩ := by
  obtain ⟨b, o, path⟩ := a
  cases path with
  | none => exact ⟨b, o, rfl⟩
  | some q => simp [World.cell?] at h; split at h <;> cases h
theorem add_at (b o k : Nat) : (⟨b, o, none⟩ : Addr).add k = ⟨b, o + k, none⟩ := by unfold Addr.add; split <;> simp_all
theorem add_zero (a : Addr) : a.add 0 = a := by unfold Addr.add; rw [if_pos rfl]
theorem memD {α : Type} {l : List α} {k : Nat} (h : k < l.length) (d : α) : l.getD k d ∈ l := by
  rw [List.getD_eq_getElem?_getD, List.getElem?_eq_getElem h]; exact List.getElem_mem h
theorem wf_i64 {n : Int} (h : Lit.wf (.int .i64 n)) : I64 n := by
  simp [Lit.wf, IntKind.min, IntKind.max, IntKind.signed, IntKind.bits] at h
  unfold I64; omega
section
variable {H : Type} {enc : TypeId × Value → H} {w : World} {held : Bool} {fuel : Nat} {c : Value} {y : DataW H × List MemPlace}
/-- A slice of ints that came in. -/
theorem ints_in (h : DataW.trod enc Tryz.prog w 0 (fun _ => true) held fuel 22 [c] = some y) : ∃ A n cc, c = .slice A n cc ∧ IntsIn w.heap.size A n w := by
  rcases open_ints Tryz.underlying22 Tryz.underlying3 (by kernel_rfl) h with ⟨hc, hx⟩ | ⟨a, len, cap, zs, hc, _, hl, hm, hz, hx, hcell, hwf⟩
  · simp at hc
    exact ⟨none, 0, 0, hc, by omega, fun j hj => by omega⟩
  · simp at hc
    subst hc
    simp only [if_true] at hz
    refine ⟨some a, len, cap, rfl, by unfold maxLen at hm; omega, fun j hj => ?_⟩
    have h1 := hcell j (by omega)
    have h0 := hcell 0 (by omega)
    rw [add_zero] at h0
    obtain ⟨b, o, rfl⟩ := no_path h0
    rw [add_at] at h1
    exact ⟨b, o, zs.getD j 0, rfl, World.block_lt_of_cell? w _ h1, h1, wf_i64 (hwf _ (memD (by omega) 0))⟩
/-- A slice of slices of ints that came in. -/
theorem intss_in (h : DataW.trod enc Tryz.prog w 0 (fun _ => true) held fuel 23 [c] = some y) : ∃ A n cc, c = .slice A n cc ∧ IntssIn w.heap.size A n w := by
  have hcc : Tryz.prog.cellsOf 22 = 1 := by kernel_rfl
  rcases DataW.trod_slice Tryz.underlying23 h with ⟨hc, hx⟩ | ⟨a, len, cap, elems, rest, m, _, hc, -, hb, hl, hm, hlen, hel, -, -⟩
  · simp at hc
    exact ⟨none, 0, 0, hc, by omega, fun j hj => by omega⟩
  · simp at hc
    subst hc
    rw [hcc] at hel
    refine ⟨some a, len, cap, rfl, by unfold maxLen at hm; omega, fun j hj => ?_⟩
    have get : ∀ i, i < len → ∃ c0 A n cc, w.cell? (a.add i) = some c0 ∧ c0 = .slice A n cc ∧ IntsIn w.heap.size A n w := fun i hi => by
      have h1 := hel i hi
      rw [List.getElem?_eq_getElem (by omega), Option.bind_eq_some_iff] at h1
      obtain ⟨cs, h2, h3⟩ := h1
      have h4 := World.cells?_some h2
      match cs, h4.1 with
      | [c0], _ =>
        obtain ⟨A, n, cc, rfl, hi⟩ := ints_in h3
        have h5 := h4.2.2 0 (by omega)
        rw [add_zero, Nat.mul_one] at h5
        exact ⟨_, A, n, cc, by simpa using h5, rfl, hi⟩
    obtain ⟨c0, _, _, _, g0, _⟩ := get 0 (by omega)
    rw [add_zero] at g0
    obtain ⟨b, o, rfl⟩ := no_path g0
    obtain ⟨c1, A, n, cc, g1, rfl, hi⟩ := get j hj
    rw [add_at] at g1
    exact ⟨b, o, A, n, cc, rfl, World.block_lt_of_cell? w _ g1, g1, hi⟩
end
section
variable {H : Type} {enc : TypeId × Value → H} {P : Program} {w : World} {base : Nat} {spare : Nat → Bool} {held : Bool}
theorem trod_struct4 {t : TypeId} {f0 f1 f2 f3 : Field} {fuel : Nat} {cs : List Value} {x : DataW H × List MemPlace} (ht : P.underlying t = some (.struct #[f0, f1, f2, f3])) (h : DataW.trod enc P w base spare held fuel t cs = some x) :
    ∃ y0 y1 n, DataW.trod enc P w base spare held n f0.type ((cs.drop f0.offset).take (P.cellsOf f0.type)) = some y0 ∧
      DataW.trod enc P w base spare held n f1.type ((cs.drop f1.offset).take (P.cellsOf f1.type)) = some y1 := by
  obtain ⟨xs, n, _, rfl, hl, hlen, hf⟩ := DataW.trod_struct ht h
  match xs, hlen with
  | [y0, y1, y2, y3], _ => exact ⟨y0, y1, n, by simpa using hf 0 f0 rfl, by simpa using hf 1 f1 rfl⟩
end
theorem case_info : ∃ f0 f1 f2 f3, Tryz.prog.underlying 26 = some (.struct #[f0, f1, f2, f3]) ∧ (f0.type, f1.type, f0.offset, f1.offset) = (22, 23, 0, 1) :=
  ⟨_, _, _, _, Tryz.underlying26, by kernel_rfl⟩
/-- A case by value. -/
structure CaseIn (w : World) (v : Value) (A0 A1 : Option Addr) (n0 n1 c0 c1 : Nat) (q m : Int) : Prop where
  eq : v = .agg #[.slice A0 n0 c0, .slice A1 n1 c1, .int .u32 q, .int .u8 m]
  h0 : IntsIn w.heap.size A0 n0 w
  h1 : IntssIn w.heap.size A1 n1 w
  q0 : 0 ≤ q
  q1 : q ≤ 4294967295
  m0 : 0 ≤ m
  m1 : m ≤ 255
theorem wf_u8 {n : Int} (h : Lit.wf (.int .u8 n)) : 0 ≤ n ∧ n ≤ 255 := by
  simp [Lit.wf, IntKind.min, IntKind.max, IntKind.signed, IntKind.bits] at h
  omega
theorem has_u8 {n : Int} (h : IntKind.u8.has n) : 0 ≤ n ∧ n ≤ 255 := by
  simp [IntKind.has, IntKind.min, IntKind.max, IntKind.signed, IntKind.bits] at h
  omega
theorem has_u32 {n : Int} (h : IntKind.u32.has n) : 0 ≤ n ∧ n ≤ 4294967295 := by
  simp [IntKind.has, IntKind.min, IntKind.max, IntKind.signed, IntKind.bits] at h
  omega
set_option maxRecDepth 100000 in
theorem open_case {H : Type} {enc : TypeId × Value → H} {w : World} {held : Bool} {r : Reach} {b0 : Nat} {v : Value} {d : DataW H} {p : List MemPlace} (h : DataW.Trod enc Tryz.prog w 0 (fun _ => true) held 26 v d p) (hv : Value.okWide Tryz.prog w r b0 26 v) :
    ∃ A0 A1 n0 n1 c0 c1 q m, CaseIn w v A0 A1 n0 n1 c0 c1 q m := by
  unfold Value.okWide at hv
  rw [Tryz.underlying26] at hv
  obtain ⟨cs, rfl, hsz, ts, hts, _, hat⟩ := hv
  have hc : Tryz.prog.cellTypes Tryz.prog.depth 26 = some [22, 23, 24, 5] := by kernel_rfl
  have hn : Tryz.prog.cellsOf 26 = 4 := by kernel_rfl
  obtain rfl := Option.some.inj (hts.symm.trans hc)
  rw [hn] at hsz
  obtain ⟨l⟩ := cs
  match l, hsz with
  | [c0, c1, c2, c3], _ =>
    obtain ⟨t2, r2, o2⟩ := hat 2 c2 rfl
    obtain rfl : 24 = t2 := Option.some.inj r2
    obtain ⟨x2, rfl, y2⟩ := cell_int Tryz.underlying24 o2
    obtain ⟨t3, r3, o3⟩ := hat 3 c3 rfl
    obtain rfl : 5 = t3 := Option.some.inj r3
    obtain ⟨x3, rfl, y3⟩ := cell_int Tryz.underlying5 o3
    obtain ⟨fuel, hf⟩ := h
    obtain ⟨f0, f1, f2, f3, hu, ht⟩ := case_info
    simp only [Prod.mk.injEq] at ht
    obtain ⟨e0, e1, o0, o1⟩ := ht
    obtain ⟨z0, z1, m, g0, g1⟩ := trod_struct4 hu hf
    have ca : Tryz.prog.cellsOf 22 = 1 := by kernel_rfl
    have cb : Tryz.prog.cellsOf 23 = 1 := by kernel_rfl
    rw [e0, o0, ca] at g0
    rw [e1, o1, cb] at g1
    obtain ⟨A0, n0, k0, rfl, i0⟩ := ints_in (c := c0) g0
    obtain ⟨A1, n1, k1, rfl, i1⟩ := intss_in (c := c1) g1
    exact ⟨A0, A1, n0, n1, k0, k1, x2, x3, rfl, i0, i1, (has_u32 y2).1, (has_u32 y2).2, (has_u8 y3).1, (has_u8 y3).2⟩
end Go.Proofs.YtbihaoadgcckhaaGreat
