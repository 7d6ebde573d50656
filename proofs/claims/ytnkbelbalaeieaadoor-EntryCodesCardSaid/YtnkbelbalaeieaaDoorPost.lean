/- From 'it returned true and below the old heap nothing has turned' to the row's post; arguments opened by their outer form; the table off the row's condition. -/
import Derived.Test.YtnkbelbalaeieaaDoorDraw
import Derived.ProofKit
import Derived.LaidMore
import Derived.LaidSub
import Derived.LaidHandle
import Derived.OpenShut
import Derived.Carry
import Derived.ChangeSame
import Derived.Stop.Joined
import Derived.Lib.LaidTab
namespace Go.Proofs.YtnkbelbalaeieaaDoor
open Go Go.ChangeShapes Go.WideShapes Go.ChangeAt Go.WideElems Go.RowKit Go.Lib

theorem A_laidOut : laidOutB Tryd.prog = true := by kernel_rfl
theorem own : ownKnob Tryd.prog.godebug = none := by kernel_rfl

section
variable {H : Type} {enc : TypeId × Value → H} {P : Program}
theorem trodAll_stays (hl : laidOutB P = true) {W W' : World} {sp' : Nat → Bool} : ∀ {ts : List TypeId} {vs : List Value} {ds : List (DataW H)} {ps : List MemPlace},
    (∀ t ∈ ts, P.readableRec t = true ∧ t < P.types.size) → DataW.TrodAll enc P W 0 (fun _ => true) true ts vs ds ps → (∀ p ∈ ps, W.sameAt W' p) → (∀ p ∈ ps, sp' p.block = true) → DataW.TrodAll enc P W' 0 sp' true ts vs ds ps
  | [], [], [], _, _, h, _, _ => h
  | [], [], _ :: _, _, _, h, _, _ => h.elim
  | [], _ :: _, _, _, _, h, _, _ => h.elim
  | _ :: _, [], _, _, _, h, _, _ => h.elim
  | _ :: _, _ :: _, [], _, _, h, _, _ => h.elim
  | t :: ts, v :: vs, d :: ds, ps, ht, h, h1, h2 => by
    obtain ⟨p, q, hp, hq, rfl⟩ := h
    exact ⟨p, q, Trod_stays hl (ht t (by simp)).1 (ht t (by simp)).2 hp (fun x hx => h1 x (by simp [hx])) (fun x hx => h2 x (by simp [hx])),
      trodAll_stays hl (fun u hu => ht u (by simp [hu])) hq (fun x hx => h1 x (by simp [hx])) (fun x hx => h2 x (by simp [hx])), rfl⟩

/-- The post of a law: true, the arguments read as they did. -/
theorem law_post {f : Func} {s : ChangeSpec} {W W' : World} {args : Array Value} {ds : List (DataW H)} {p : List MemPlace} {tb : TypeId} (hl : laidOutB P = true)
    (hts : ∀ t ∈ f.params.toList, P.readableRec t = true ∧ t < P.types.size) (hv : s.vars = []) (hr : f.resultTypes = #[tb]) (hb : P.underlying tb = some .bool)
    (hf : s.fn H (ds ++ []) = { results := [.lit (.bool true)], args := ds })
    (hW : DataW.Whole enc P f.params.toList s.vars false W args.toList ds [] p) (hA : DataW.TrodAll enc P W 0 (fun _ => true) true f.params.toList args.toList ds p) (hbe : Below W.heap.size W W') :
    s.post enc P f false true false false W args (.bool true) W' := by
  have hlt : ∀ x ∈ p, x.block < W.heap.size := fun x hx => hW.lt x hx
  have hsame : ∀ x ∈ p, W.sameAt W' x := fun x hx => hbe.same (hlt x hx)
  have hargs : ∀ sp : Nat → Bool, (∀ x ∈ p, sp x.block = true) → DataW.TrodAll enc P W' 0 sp true f.params.toList args.toList (s.fn H (ds ++ [])).args p := fun sp h => by
    rw [hf]; exact trodAll_stays hl hts hA hsame h
  have hvars : ∀ sp : Nat → Bool, DataW.TrodVars enc P W' sp s.vars (s.fn H (ds ++ [])).vars [] := fun sp => by
    rw [hf, hv]; rfl
  have hold : ∀ x ∈ p, (fun b => decide (b < W.heap.size)) x.block = true := fun x hx => by simpa using hlt x hx
  have hres : ∀ (b : Nat) (sp : Nat → Bool) (hd : Bool), DataW.TrodAll enc P W' b sp hd f.resultTypes.toList ((Value.bool true).resultList f.resultTypes.size) (s.fn H (ds ++ [])).results [] := fun b sp hd => by
    rw [hf, hr]; exact trodAll_mk1 (shut_bool hb true)
  refine ⟨ds, [], p, [], p, [], hW, hres _ _ _, hargs _ hold, hvars _, World.keptBut_mono (fun x hx => ⟨hx, ?_⟩) (hbe.frame (· ∈ p)), fun _ => ?_⟩
  · simpa using hx
  · obtain ⟨_, _, _, _, _, hz, hn⟩ := hW
    refine ⟨ok_one hr rfl (okWide_bool_mk hb _), _, _, ([] ++ p) ++ [], ⟨[] ++ p, [], trodAll_append (hargs _ (fun _ _ => rfl)) (hres _ _ _), hvars _, rfl, ?_, ?_⟩, ?_⟩
    · intro b off hp
      have hin : MemPlace.cell b off ∈ p := by simpa using hp
      rw [hbe.frozen (hlt _ hin)]
      exact hz b off hin
    · intro ha; simpa using hn ha
    · intro x hx _; simpa using hx
end

/-! Arguments by their outer form. -/
section
variable {P : Program} {w : World} {r : Reach} {b0 : Nat} {t : TypeId}
theorem cell_int {k : IntKind} {v : Value} (ht : P.underlying t = some (.int k)) (h : Cell.okWide P w r b0 t v) : ∃ n, v = .int k n ∧ k.has n := by
  unfold Cell.okWide at h
  rw [ht] at h
  unfold Cell.ok at h
  rw [ht] at h
  cases v <;> simp_all
theorem cell_string {v : Value} (ht : P.underlying t = some .string) (h : Cell.okWide P w r b0 t v) : ∃ s, v = .string s ∧ (s.size : Int) ≤ IntKind.i64.max := by
  unfold Cell.okWide at h
  rw [ht] at h
  unfold Cell.ok at h
  rw [ht] at h
  cases v <;> simp_all
end
theorem has_i64 {n : Int} (h : IntKind.i64.has n) : I64 n := by
  simp [IntKind.has, IntKind.min, IntKind.max, IntKind.signed, IntKind.bits] at h
  unfold I64; omega
set_option maxRecDepth 100000 in
/-- An entry by value. -/
theorem open_entry {w : World} {r : Reach} {b0 : Nat} {v : Value} (h : Value.okWide Tryd.prog w r b0 26 v) :
    ∃ e : Ent, v = e.val ∧ (I64 e.id ∧ I64 e.school ∧ I64 e.student ∧ I64 e.kind ∧ I64 e.day ∧ I64 e.on ∧ I64 e.credits ∧ I64 e.grade ∧ I64 e.ref ∧ I64 e.fro ∧ I64 e.programme ∧ I64 e.version ∧ I64 e.key) ∧ e.course.size ≤ 9223372036854775807 ∧ e.mark.size ≤ 9223372036854775807 := by
  unfold Value.okWide at h
  rw [Tryd.underlying26] at h
  obtain ⟨cs, rfl, hsz, ts, hts, _, hat⟩ := h
  have hc : Tryd.prog.cellTypes Tryd.prog.depth 26 = some [3, 3, 3, 3, 3, 3, 9, 3, 3, 3, 3, 3, 3, 3, 9] := by kernel_rfl
  have hn : Tryd.prog.cellsOf 26 = 15 := by kernel_rfl
  obtain rfl := Option.some.inj (hts.symm.trans hc)
  rw [hn] at hsz
  obtain ⟨l⟩ := cs
  match l, hsz with
  | [c0, c1, c2, c3, c4, c5, c6, c7, c8, c9, c10, c11, c12, c13, c14], _ =>
    obtain ⟨t0, q0, o0⟩ := hat 0 c0 rfl
    obtain rfl : 3 = t0 := Option.some.inj q0
    obtain ⟨x0, rfl, y0⟩ := cell_int Tryd.underlying3 o0
    obtain ⟨t1, q1, o1⟩ := hat 1 c1 rfl
    obtain rfl : 3 = t1 := Option.some.inj q1
    obtain ⟨x1, rfl, y1⟩ := cell_int Tryd.underlying3 o1
    obtain ⟨t2, q2, o2⟩ := hat 2 c2 rfl
    obtain rfl : 3 = t2 := Option.some.inj q2
    obtain ⟨x2, rfl, y2⟩ := cell_int Tryd.underlying3 o2
    obtain ⟨t3, q3, o3⟩ := hat 3 c3 rfl
    obtain rfl : 3 = t3 := Option.some.inj q3
    obtain ⟨x3, rfl, y3⟩ := cell_int Tryd.underlying3 o3
    obtain ⟨t4, q4, o4⟩ := hat 4 c4 rfl
    obtain rfl : 3 = t4 := Option.some.inj q4
    obtain ⟨x4, rfl, y4⟩ := cell_int Tryd.underlying3 o4
    obtain ⟨t5, q5, o5⟩ := hat 5 c5 rfl
    obtain rfl : 3 = t5 := Option.some.inj q5
    obtain ⟨x5, rfl, y5⟩ := cell_int Tryd.underlying3 o5
    obtain ⟨t6, q6, o6⟩ := hat 6 c6 rfl
    obtain rfl : 9 = t6 := Option.some.inj q6
    obtain ⟨x6, rfl, y6⟩ := cell_string Tryd.underlying9 o6
    obtain ⟨t7, q7, o7⟩ := hat 7 c7 rfl
    obtain rfl : 3 = t7 := Option.some.inj q7
    obtain ⟨x7, rfl, y7⟩ := cell_int Tryd.underlying3 o7
    obtain ⟨t8, q8, o8⟩ := hat 8 c8 rfl
    obtain rfl : 3 = t8 := Option.some.inj q8
    obtain ⟨x8, rfl, y8⟩ := cell_int Tryd.underlying3 o8
    obtain ⟨t9, q9, o9⟩ := hat 9 c9 rfl
    obtain rfl : 3 = t9 := Option.some.inj q9
    obtain ⟨x9, rfl, y9⟩ := cell_int Tryd.underlying3 o9
    obtain ⟨t10, q10, o10⟩ := hat 10 c10 rfl
    obtain rfl : 3 = t10 := Option.some.inj q10
    obtain ⟨x10, rfl, y10⟩ := cell_int Tryd.underlying3 o10
    obtain ⟨t11, q11, o11⟩ := hat 11 c11 rfl
    obtain rfl : 3 = t11 := Option.some.inj q11
    obtain ⟨x11, rfl, y11⟩ := cell_int Tryd.underlying3 o11
    obtain ⟨t12, q12, o12⟩ := hat 12 c12 rfl
    obtain rfl : 3 = t12 := Option.some.inj q12
    obtain ⟨x12, rfl, y12⟩ := cell_int Tryd.underlying3 o12
    obtain ⟨t13, q13, o13⟩ := hat 13 c13 rfl
    obtain rfl : 3 = t13 := Option.some.inj q13
    obtain ⟨x13, rfl, y13⟩ := cell_int Tryd.underlying3 o13
    obtain ⟨t14, q14, o14⟩ := hat 14 c14 rfl
    obtain rfl : 9 = t14 := Option.some.inj q14
    obtain ⟨x14, rfl, y14⟩ := cell_string Tryd.underlying9 o14
    refine ⟨⟨x0, x1, x2, x3, x4, x5, x6, x7, x8, x9, x10, x11, x12, x13, x14⟩, rfl, ⟨has_i64 y0, has_i64 y1, has_i64 y2, has_i64 y3, has_i64 y4, has_i64 y5, has_i64 y7, has_i64 y8, has_i64 y9, has_i64 y10, has_i64 y11, has_i64 y12, has_i64 y13⟩, ?_, ?_⟩
    · simp at y6; simpa using by omega
    · simp at y14; simpa using by omega
set_option maxRecDepth 100000 in
/-- Two changes, by value. -/
theorem open_pairs {w : World} {r : Reach} {b0 : Nat} {v : Value} (h : Value.okWide Tryd.prog w r b0 24 v) :
    ∃ a b c d : Int, v = .agg #[.int .i64 a, .int .i64 b, .int .i64 c, .int .i64 d] ∧ I64 a ∧ I64 b ∧ I64 c ∧ I64 d := by
  unfold Value.okWide at h
  rw [Tryd.underlying24] at h
  obtain ⟨cs, rfl, hsz, ts, hts, _, hat⟩ := h
  have hc : Tryd.prog.cellTypes Tryd.prog.depth 24 = some [3, 3, 3, 3] := by kernel_rfl
  have hn : Tryd.prog.cellsOf 24 = 4 := by kernel_rfl
  obtain rfl := Option.some.inj (hts.symm.trans hc)
  rw [hn] at hsz
  obtain ⟨l⟩ := cs
  match l, hsz with
  | [c0, c1, c2, c3], _ =>
    obtain ⟨t0, q0, o0⟩ := hat 0 c0 rfl
    obtain rfl : 3 = t0 := Option.some.inj q0
    obtain ⟨x0, rfl, y0⟩ := cell_int Tryd.underlying3 o0
    obtain ⟨t1, q1, o1⟩ := hat 1 c1 rfl
    obtain rfl : 3 = t1 := Option.some.inj q1
    obtain ⟨x1, rfl, y1⟩ := cell_int Tryd.underlying3 o1
    obtain ⟨t2, q2, o2⟩ := hat 2 c2 rfl
    obtain rfl : 3 = t2 := Option.some.inj q2
    obtain ⟨x2, rfl, y2⟩ := cell_int Tryd.underlying3 o2
    obtain ⟨t3, q3, o3⟩ := hat 3 c3 rfl
    obtain rfl : 3 = t3 := Option.some.inj q3
    obtain ⟨x3, rfl, y3⟩ := cell_int Tryd.underlying3 o3
    exact ⟨x0, x1, x2, x3, rfl, has_i64 y0, has_i64 y1, has_i64 y2, has_i64 y3⟩
/-- A slice of ints that came in. -/
theorem open_intsIn {H : Type} {enc : TypeId × Value → H} {w : World} {v : Value} {d : DataW H} {p : List MemPlace} (h : DataW.Trod enc Tryd.prog w 0 (fun _ => true) true 22 v d p) (hv : ∃ A n c, v = .slice A n c)
    (_hlt : ∀ x ∈ p, x.block < w.heap.size) (hs : ∀ elems spare, d = .slice elems spare → (elems.length + spare.length) * 8 ≤ reachBytes) : ∃ A n c, v = .slice A n c ∧ IntsIn w.heap.size A n w := by
  obtain ⟨A, n, c, rfl⟩ := hv
  obtain ⟨fuel, hf⟩ := h
  rcases open_ints Tryd.underlying22 Tryd.underlying3 (by kernel_rfl) hf with ⟨hc, hx⟩ | ⟨a, len, cap, zs, hc, _, hl, hm, hz, hx, hcell, hwf⟩
  · simp [Value.cells] at hc
    obtain ⟨rfl, rfl, rfl⟩ := hc
    exact ⟨none, 0, 0, rfl, by omega, fun j hj => by omega⟩
  · simp [Value.cells] at hc
    obtain ⟨rfl, rfl, rfl⟩ := hc
    simp only [Prod.mk.injEq] at hx
    have hsz := hs _ _ hx.1
    simp only [lits, List.length_map, List.length_take, List.length_drop, reachBytes, if_true] at hsz hz
    refine ⟨some a, n, c, rfl, by omega, fun j hj => ?_⟩
    have h1 := hcell j (by omega)
    obtain ⟨b, off, path⟩ := a
    have hp : path = none := by
      cases path with
      | none => rfl
      | some q => have h0 := hcell 0 (by omega); simp [World.cell?, Addr.add] at h0; split at h0 <;> cases h0
    subst hp
    have hadd : (⟨b, off, none⟩ : Addr).add j = ⟨b, off + j, none⟩ := by unfold Addr.add; split <;> simp_all
    rw [hadd] at h1
    refine ⟨b, off, zs.getD j 0, rfl, World.block_lt_of_cell? w _ h1, h1, ?_⟩
    have h2 := hwf (zs.getD j 0) (getD_mem (by omega))
    generalize zs.getD j 0 = z at h2
    simp [Lit.wf, IntKind.min, IntKind.max, IntKind.signed, IntKind.bits] at h2
    unfold I64; omega
end Go.Proofs.YtnkbelbalaeieaaDoor
