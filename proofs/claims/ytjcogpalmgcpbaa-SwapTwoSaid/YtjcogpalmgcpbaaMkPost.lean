/- From 'it returned true and below the old heap nothing has turned' to the row's post; arguments opened by their outer form; the table off the row's condition. -/
import Derived.Test.YtjcogpalmgcpbaaMkCs
import Derived.Lib.SmallJoins
import Derived.ProofKit
import Derived.LaidMore
import Derived.LaidSub
import Derived.LaidHandle
import Derived.OpenShut
import Derived.Carry
import Derived.ChangeSame
import Derived.Stop.Joined
namespace Go.Proofs.Ytjcogpalmgcpbaa
open Go Go.ChangeShapes Go.WideShapes Go.ChangeAt Go.WideElems Go.RowKit Go.Lib

theorem A_laidOut : laidOutB Try.prog = true := by kernel_rfl
theorem own : ownKnob Try.prog.godebug = none := by kernel_rfl

section
variable {H : Type} {enc : TypeId × Value → H} {P : Program}
theorem trodAll_stays (hl : laidOutB P = true) {W W' : World} {sp' : Nat → Bool} : ∀ {ts : List TypeId} {vs : List Value} {ds : List (DataW H)} {ps : List MemPlace},
    (∀ t ∈ ts, P.readableRec t = true ∧ t < P.types.size) → DataW.TrodAll enc P W 0 (fun _ => true) true ts vs ds ps → (∀ p ∈ ps, W.sameAt W' p) → (∀ p ∈ ps, sp' p.block = true) → DataW.TrodAll enc P W' 0 sp' true ts vs ds ps
  | [], [], [], _, _, h, _, _ => h
  | [], [], _ :: _, _, _, h, _, _ => h.elim
  | [], _ :: _, _, _, _, h, _, _ => h.elim
  | _ :: _, [], _, _, _, h, _, _ => h.elim
  | _ :: _, _ :: _, [], _, _, h, _, _ => h.elim
  | t :: ts, v :: vs, d :: ds, ps, ht, h, h1, h2 => by
    obtain ⟨p, q, hp, hq, rfl⟩ := h
    exact ⟨p, q, Trod_stays hl (ht t (by simp)).1 (ht t (by simp)).2 hp (fun x hx => h1 x (by simp [hx])) (fun x hx => h2 x (by simp [hx])),
      trodAll_stays hl (fun u hu => ht u (by simp [hu])) hq (fun x hx => h1 x (by simp [hx])) (fun x hx => h2 x (by simp [hx])), rfl⟩

/-- The post of a law: true, the arguments read as they did. -/
theorem law_post {f : Func} {s : ChangeSpec} {W W' : World} {args : Array Value} {ds : List (DataW H)} {p : List MemPlace} {tb : TypeId} (hl : laidOutB P = true)
    (hts : ∀ t ∈ f.params.toList, P.readableRec t = true ∧ t < P.types.size) (hv : s.vars = []) (hr : f.resultTypes = #[tb]) (hb : P.underlying tb = some .bool)
    (hf : s.fn H (ds ++ []) = { results := [.lit (.bool true)], args := ds })
    (hW : DataW.Whole enc P f.params.toList s.vars false W args.toList ds [] p) (hA : DataW.TrodAll enc P W 0 (fun _ => true) true f.params.toList args.toList ds p) (hbe : Below W.heap.size W W') :
    s.post enc P f false true false false W args (.bool true) W' := by
  have hlt : ∀ x ∈ p, x.block < W.heap.size := fun x hx => hW.lt x hx
  have hsame : ∀ x ∈ p, W.sameAt W' x := fun x hx => hbe.same (hlt x hx)
  have hargs : ∀ sp : Nat → Bool, (∀ x ∈ p, sp x.block = true) → DataW.TrodAll enc P W' 0 sp true f.params.toList args.toList (s.fn H (ds ++ [])).args p := fun sp h => by
    rw [hf]; exact trodAll_stays hl hts hA hsame h
  have hvars : ∀ sp : Nat → Bool, DataW.TrodVars enc P W' sp s.vars (s.fn H (ds ++ [])).vars [] := fun sp => by
    rw [hf, hv]; rfl
  have hold : ∀ x ∈ p, (fun b => decide (b < W.heap.size)) x.block = true := fun x hx => by simpa using hlt x hx
  have hres : ∀ (b : Nat) (sp : Nat → Bool) (hd : Bool), DataW.TrodAll enc P W' b sp hd f.resultTypes.toList ((Value.bool true).resultList f.resultTypes.size) (s.fn H (ds ++ [])).results [] := fun b sp hd => by
    rw [hf, hr]; exact trodAll_mk1 (shut_bool hb true)
  refine ⟨ds, [], p, [], p, [], hW, hres _ _ _, hargs _ hold, hvars _, World.keptBut_mono (fun x hx => ⟨hx, ?_⟩) (hbe.frame (· ∈ p)), fun _ => ?_⟩
  · simpa using hx
  · obtain ⟨_, _, _, _, _, hz, hn⟩ := hW
    refine ⟨ok_one hr rfl (okWide_bool_mk hb _), _, _, ([] ++ p) ++ [], ⟨[] ++ p, [], trodAll_append (hargs _ (fun _ _ => rfl)) (hres _ _ _), hvars _, rfl, ?_, ?_⟩, ?_⟩
    · intro b off hp
      have hin : MemPlace.cell b off ∈ p := by simpa using hp
      rw [hbe.frozen (hlt _ hin)]
      exact hz b off hin
    · intro ha; simpa using hn ha
    · intro x hx _; simpa using hx
end

/-! Arguments by their outer form. -/
section
variable {P : Program} {w : World} {r : Reach} {b0 : Nat} {t : TypeId}
theorem cell_int {k : IntKind} {v : Value} (ht : P.underlying t = some (.int k)) (h : Cell.okWide P w r b0 t v) : ∃ n, v = .int k n ∧ k.has n := by
  unfold Cell.okWide at h
  rw [ht] at h
  unfold Cell.ok at h
  rw [ht] at h
  cases v <;> simp_all
theorem cell_string {v : Value} (ht : P.underlying t = some .string) (h : Cell.okWide P w r b0 t v) : ∃ s, v = .string s ∧ (s.size : Int) ≤ IntKind.i64.max := by
  unfold Cell.okWide at h
  rw [ht] at h
  unfold Cell.ok at h
  rw [ht] at h
  cases v <;> simp_all
end
theorem has_i64 {n : Int} (h : IntKind.i64.has n) : I64 n := by
  simp [IntKind.has, IntKind.min, IntKind.max, IntKind.signed, IntKind.bits] at h
  unfold I64; omega

theorem no_path {w : World} {a : Addr} {v : Value} (h : w.cell? a = some v) : ∃ b o, a = ⟨b, o, none⟩ := by
  obtain ⟨b, o, path⟩ := a
  cases path with
  | none => exact ⟨b, o, rfl⟩
  | some q => simp [World.cell?] at h; split at h <;> cases h
theorem add_at (b o k : Nat) : (⟨b, o, none⟩ : Addr).add k = ⟨b, o + k, none⟩ := by unfold Addr.add; split <;> simp_all
theorem add_zero (a : Addr) : a.add 0 = a := by unfold Addr.add; rw [if_pos rfl]
theorem memD {α : Type} {l : List α} {k : Nat} (h : k < l.length) (d : α) : l.getD k d ∈ l := by
  rw [List.getD_eq_getElem?_getD, List.getElem?_eq_getElem h]; exact List.getElem_mem h
theorem wf_i64 {n : Int} (h : Lit.wf (.int .i64 n)) : I64 n := by
  simp [Lit.wf, IntKind.min, IntKind.max, IntKind.signed, IntKind.bits] at h
  unfold I64; omega
section
variable {H : Type} {enc : TypeId × Value → H} {w : World} {held : Bool} {fuel : Nat} {c : Value} {y : DataW H × List MemPlace}
/-- A slice of ints that came in. -/
theorem ints_in (h : DataW.trod enc Try.prog w 0 (fun _ => true) held fuel 26 [c] = some y) : ∃ A n cc, c = .slice A n cc ∧ IntsIn w.heap.size A n w := by
  rcases open_ints Try.underlying26 Try.underlying3 (by kernel_rfl) h with ⟨hc, hx⟩ | ⟨a, len, cap, zs, hc, _, hl, hm, hz, hx, hcell, hwf⟩
  · simp at hc
    exact ⟨none, 0, 0, hc, by omega, fun j hj => by omega⟩
  · simp at hc
    subst hc
    simp only [if_true] at hz
    refine ⟨some a, len, cap, rfl, by unfold maxLen at hm; omega, fun j hj => ?_⟩
    have h1 := hcell j (by omega)
    have h0 := hcell 0 (by omega)
    rw [add_zero] at h0
    obtain ⟨b, o, rfl⟩ := no_path h0
    rw [add_at] at h1
    exact ⟨b, o, zs.getD j 0, rfl, World.block_lt_of_cell? w _ h1, h1, wf_i64 (hwf _ (memD (by omega) 0))⟩



























end
section
variable {H : Type} {enc : TypeId × Value → H} {P : Program} {w : World} {base : Nat} {spare : Nat → Bool} {held : Bool}
theorem trod_struct4 {t : TypeId} {f0 f1 f2 f3 : Field} {fuel : Nat} {cs : List Value} {x : DataW H × List MemPlace} (ht : P.underlying t = some (.struct #[f0, f1, f2, f3])) (h : DataW.trod enc P w base spare held fuel t cs = some x) :
    ∃ y0 y1 n, DataW.trod enc P w base spare held n f0.type ((cs.drop f0.offset).take (P.cellsOf f0.type)) = some y0 ∧
      DataW.trod enc P w base spare held n f1.type ((cs.drop f1.offset).take (P.cellsOf f1.type)) = some y1 := by
  obtain ⟨xs, n, _, rfl, hl, hlen, hf⟩ := DataW.trod_struct ht h
  match xs, hlen with
  | [y0, y1, y2, y3], _ => exact ⟨y0, y1, n, by simpa using hf 0 f0 rfl, by simpa using hf 1 f1 rfl⟩
end


/-- A case by value. -/
structure CaseIn (w : World) (v : Value) (A0 A1 : Option Addr) (n0 n1 c0 c1 : Nat) (q m : Int) : Prop where
  eq : v = .agg #[.slice A0 n0 c0, .slice A1 n1 c1, .int .u32 q, .int .u8 m]
  h0 : IntsIn w.heap.size A0 n0 w
  h1 : IntssIn w.heap.size A1 n1 w
  q0 : 0 ≤ q
  q1 : q ≤ 4294967295
  m0 : 0 ≤ m
  m1 : m ≤ 255
theorem wf_u8 {n : Int} (h : Lit.wf (.int .u8 n)) : 0 ≤ n ∧ n ≤ 255 := by
  simp [Lit.wf, IntKind.min, IntKind.max, IntKind.signed, IntKind.bits] at h
  omega
theorem has_u8 {n : Int} (h : IntKind.u8.has n) : 0 ≤ n ∧ n ≤ 255 := by
  simp [IntKind.has, IntKind.min, IntKind.max, IntKind.signed, IntKind.bits] at h
  omega
theorem has_u32 {n : Int} (h : IntKind.u32.has n) : 0 ≤ n ∧ n ≤ 4294967295 := by
  simp [IntKind.has, IntKind.min, IntKind.max, IntKind.signed, IntKind.bits] at h
  omega































end Go.Proofs.Ytjcogpalmgcpbaa
