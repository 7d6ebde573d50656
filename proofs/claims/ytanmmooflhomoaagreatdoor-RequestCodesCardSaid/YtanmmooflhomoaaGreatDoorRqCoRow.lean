/- The law RequestCodes: for every input it returns true, and each argument reads as it read before. The listed variables of the library (deBruijn32tab, deBruijn64tab, uint64pow10) hold what the program's text lays. -/
import Derived.Test.YtanmmooflhomoaaGreatDoorRqPost
import Derived.Test.YtanmmooflhomoaaGreatDoorVNm2
import Derived.Lib.Itoa
import Derived.Stop.LaidErr
import Derived.Test.YtanmmooflhomoaaGreatDoorRows
import Derived.Test.YtanmmooflhomoaaGreatDoorRqCo
import Derived.Test.YtanmmooflhomoaaGreatDoorRqOpn
/- The tables and errors that the row of RequestCodes lists, and that the door's own run lays them. -/
namespace Go.Proofs.YtanmmooflhomoaaGreatDoor
open Go Go.ChangeShapes Go.WideShapes Go.ChangeAt Go.WideElems Go.RowKit Go.Lib
open Go.Extern.Stop Go.Stop Go.Extern

def laidRow : List (String × DataW Unit) := [("math/bits.deBruijn32tab", Rows.laid_math_bits_deBruijn32tab), ("math/bits.deBruijn64tab", Rows.laid_math_bits_deBruijn64tab), ("internal/strconv.uint64pow10", Rows.laid_internal_strconv_uint64pow10), ("strconv.ErrRange", Rows.laid_strconv_ErrRange), ("strconv.ErrSyntax", Rows.laid_strconv_ErrSyntax)]

theorem tabs_of_laid {W : World} (h : laidMetH Tryz.prog laidRow W) : Tabs W := by
  have h1 := h.filter (fun x => x.1 == "internal/strconv.uint64pow10")
  rw [MakeChecks.laidMetH_plain _ _ _ (by kernel_rfl)] at h1
  exact Lib.tabIs_of_head (rest := []) gTab (by kernel_rfl : (Tryz.prog.globals[1]?).map (·.type) = some 156) Tryz.underlying156 Tryz.underlying139 (by kernel_rfl) (by kernel_rfl) h1

theorem door_met (os : Os) (args : Array Value) : laidMetH Tryz.prog laidRow ((World.doorLaid Tryz.prog 4000 os).forCall (fun _ _ => 0) ⟨#[], args, []⟩).memory :=
  laidMetH_of_parts3 (fuel := 8) (laidMet_of_run' 8 (by kernel_rfl) (by kernel_rfl)) (by kernel_rfl) (by kernel_rfl)
theorem maxLen_of {W : World} (h : W.ShapedOpen Tryz.prog) : ∃ m, W.cell? ⟨0, 0, none⟩ = some (.int .i64 m) :=
  Go.Proofs.cell_of_shapedOpen_int (zero := #[.int .i64 0]) (t := 3) h (of_decide_eq_true (by kernel_rfl)) (by kernel_rfl) rfl (by kernel_rfl) (by kernel_rfl) Tryz.underlying3
theorem row_err (u : TypeId) (h : Tryz.prog.typeName? 3 u = some "*errors.errorString") : u = 170 :=
  typeName_ptr_named (nm := "errors.errorString") (by rw [show "*" ++ "errors.errorString" = "*errors.errorString" by decide]; kernel_rfl) (by kernel_rfl) (by decide) u (by rw [show "*" ++ "errors.errorString" = "*errors.errorString" by decide]; exact h)
theorem errs_of_laid {W : World} (h : laidMetH Tryz.prog laidRow W) : Wr.ErrVars W := by
  have h1 := h.filter (fun x => x.1 == "strconv.ErrRange" || x.1 == "strconv.ErrSyntax")
  rw [MakeChecks.laidMetH_plain _ _ _ (by kernel_rfl)] at h1
  have e : laidRow.filter (fun x => x.1 == "strconv.ErrRange" || x.1 == "strconv.ErrSyntax") = [("strconv.ErrRange", Rows.laid_strconv_ErrRange), ("strconv.ErrSyntax", Rows.laid_strconv_ErrSyntax)] := by kernel_rfl
  rw [e] at h1
  obtain ⟨a1, t1, hv1, -⟩ := laid_sentinel (g := 3) h1 (by kernel_rfl) (by kernel_rfl) Tryz.underlying64 row_err Tryz.underlying170 Tryz.underlying172 rfl rfl Tryz.underlying9 (by kernel_rfl) (by kernel_rfl)
  obtain ⟨a0, t0, hv0, -⟩ := laid_sentinel (g := 2) h1.tail (by kernel_rfl) (by kernel_rfl) Tryz.underlying64 row_err Tryz.underlying170 Tryz.underlying172 rfl rfl Tryz.underlying9 (by kernel_rfl) (by kernel_rfl)
  exact ⟨⟨_, _, hv0⟩, _, _, hv1⟩
/-- As 'returnsInHanded_of_change_and', with the world's shape handed on. -/
theorem returnsInHanded_shaped_and {H : Type} {enc : TypeId × Value → H} {a : Assume} {C : Checked} {os : Os} {f : FuncId} {fn : Func} {s : ChangeSpec} {conds : List PathCond} {apart fresh handsOn again : Bool} {X : World → Array Value → Prop}
    (hX : ∀ (w w' : World) (args : Array Value), w.heap = w'.heap → X w args → X w' args)
    (own : ownKnob C.prog.godebug = none) (started : os.Started) (noInit : C.prog.inits.idxOf? f = none) (hfn : C.prog.funcs[f]? = some fn)
    (witness : ∃ (w : World) (tape : Tape) (i : Input), w.os = os ∧ (w.forCall tape i).Shaped C.prog ∧ i.vars = [] ∧ Input.okWide C.prog (w.forCall tape i) .any w.heap.size f i ∧
      ((s.pre enc C.prog fn conds apart (w.forCall tape i).memory i.args ∧ X (w.forCall tape i).memory i.args) ∧ sizedMet enc C.prog fn (OpenSpec.ofChange s) apart (w.forCall tape i).memory i.args) ∧ a.holds C.prog (lone (Frame.enter C.prog f i.args .normal) [] (w.forCall tape i)))
    (contract : ∀ (W : World) (base : Nat) (args : Array Value) (ds gs : List (DataW H)) (before : List MemPlace),
      (∀ (j : Nat) t v, fn.params[j]? = some t → args[j]? = some v → Value.okWide C.prog W .any base t v) →
      DataW.Whole enc C.prog fn.params.toList s.vars apart W args.toList ds gs before →
      conds.all (PathCond.test C.prog ⟨fn.params.toList, ds, s.plain.varTypes C.prog, gs⟩) = true →
      (DataW.weightsEach C.prog (fn.params.toList ++ s.plain.varTypes C.prog) (ds ++ gs)).all (· ≤ reachBytes) = true → X W args → W.ShapedOpen C.prog →
      a.holds C.prog (lone (Frame.enter C.prog f args .normal) [] W) →
      Calls C.prog f args W fun e W' => ∃ v, e = .returned v ∧ s.post enc C.prog fn apart fresh handsOn again W args v W') :
    ReturnsInHanded a C os f .any (fun w args => (s.pre enc C.prog fn conds apart w args ∧ X w args) ∧ sizedMet enc C.prog fn (OpenSpec.ofChange s) apart w args) (s.post enc C.prog fn apart fresh handsOn again) := by
  refine returnsInHanded_of_calls own started noInit witness ?_
  intro w tape i _ hsh _ hok hpre hholds
  obtain ⟨_, _, _, fn', hfn', _, _, _, _, hval⟩ := hok
  have e : fn' = fn := Option.some.inj (hfn'.symm.trans hfn)
  subst e
  obtain ⟨⟨⟨ds, gs, before, hw, hc⟩, hx⟩, hz⟩ := hpre
  have hw' := DataW.Whole.of_heap (w' := w.forCall tape i) (by rfl) hw
  refine (contract (w.forCall tape i) w.heap.size i.args ds gs before hval hw' hc (hz.weights hw) (hX _ _ _ (by rfl) hx) hsh hholds).mono fun e W' ⟨v, he, hp⟩ => ?_
  subst he
  exact ChangeSpec.post_blind hp
theorem has_u8 {n : Int} (h : IntKind.u8.has n) : 0 ≤ n ∧ n < 256 := by
  simp [IntKind.has, IntKind.min, IntKind.max, IntKind.signed, IntKind.bits] at h
  omega
theorem has_u16 {n : Int} (h : IntKind.u16.has n) : 0 ≤ n ∧ n < 65536 := by
  simp [IntKind.has, IntKind.min, IntKind.max, IntKind.signed, IntKind.bits] at h
  omega
set_option maxRecDepth 100000 in
/-- A change of a text, by value. -/
theorem open_change {w : World} {r : Reach} {b0 : Nat} {v : Value} (h : Value.okWide Tryz.prog w r b0 39 v) :
    ∃ (a c : Int) (s : ByteArray), v = .agg #[.int .u16 a, .int .u8 c, .string s] ∧ (0 ≤ a ∧ a < 65536) ∧ (0 ≤ c ∧ c < 256) ∧ s.size ≤ 9223372036854775807 := by
  unfold Value.okWide at h
  rw [Tryz.underlying39] at h
  obtain ⟨cs, rfl, hsz, ts, hts, _, hat⟩ := h
  have hc : Tryz.prog.cellTypes Tryz.prog.depth 39 = some [37, 5, 9] := by kernel_rfl
  have hn : Tryz.prog.cellsOf 39 = 3 := by kernel_rfl
  obtain rfl := Option.some.inj (hts.symm.trans hc)
  rw [hn] at hsz
  obtain ⟨l⟩ := cs
  match l, hsz with
  | [c0, c1, c2], _ =>
    obtain ⟨t0, q0, o0⟩ := hat 0 c0 rfl
    obtain rfl : 37 = t0 := Option.some.inj q0
    obtain ⟨x0, rfl, y0⟩ := cell_int Tryz.underlying37 o0
    obtain ⟨t1, q1, o1⟩ := hat 1 c1 rfl
    obtain rfl : 5 = t1 := Option.some.inj q1
    obtain ⟨x1, rfl, y1⟩ := cell_int Tryz.underlying5 o1
    obtain ⟨t2, q2, o2⟩ := hat 2 c2 rfl
    obtain rfl : 9 = t2 := Option.some.inj q2
    obtain ⟨x2, rfl, y2⟩ := cell_string Tryz.underlying9 o2
    refine ⟨x0, x1, x2, rfl, has_u16 y0, has_u8 y1, ?_⟩
    simp at y2; simpa using by omega
end Go.Proofs.YtanmmooflhomoaaGreatDoor
namespace Go.Proofs.YtanmmooflhomoaaGreatDoor
open Go Go.ChangeShapes Go.WideShapes Go.ChangeAt Go.WideElems Go.RowKit Go.Lib

def zeroRqCo : Array Value := #[.agg #[.slice none 0 0, .slice none 0 0, .slice none 0 0, .int .i64 0, .int .i64 0, .int .i64 0], .slice none 0 0, .agg #[.int .u16 0, .int .u8 0, .string ⟨#[]⟩], .string ⟨#[]⟩]

set_option maxRecDepth 100000 in
theorem requestCodes_lifted (os : Os) (started : os.Started) (H : Type) (enc : TypeId × Value → H) :
    ReturnsInHanded {} Tryz.checked os 4 .any (fun w args => (Rows.requestCodesSpec.pre enc Tryz.prog Tryz.f4 [] false w args ∧ laidMetH Tryz.prog laidRow w) ∧ sizedMet enc Tryz.prog Tryz.f4 (OpenSpec.ofChange Rows.requestCodesSpec) false w args)
      (Rows.requestCodesSpec.post enc Tryz.prog Tryz.f4 false true false false) := by
  refine returnsInHanded_shaped_and (C := Tryz.checked) (X := fun w _ => laidMetH Tryz.prog laidRow w) (fun _ _ _ hh h => h.of_heap hh) own started (by kernel_rfl) Tryz.func4
    (ChangeSpec.witness_shaped (enc := enc) (C := Tryz.checked) (os := os) (X := fun w _ => laidMetH Tryz.prog laidRow w) false (World.doorLaid Tryz.prog 4000 os) zeroRqCo 8 rfl (World.shaped_of_RefB (by kernel_rfl) (by kernel_rfl)) (by kernel_rfl) (by kernel_rfl) (by kernel_rfl) (door_met os _)) ?_
  intro W base args ds gs before hval0 hW _ _ hL hsh _
  have hval : ∀ (j : Nat) t v, Tryz.f4.params[j]? = some t → args[j]? = some v → Value.okWide Tryz.prog W .any base t v := hval0
  have hW' := hW
  obtain ⟨p, q, hA0, hV, rfl, hfz, hnd⟩ := hW
  have hA : DataW.TrodAll enc Tryz.prog W 0 (fun _ => true) true Tryz.f4.params.toList args.toList ds p := hA0
  have hA2 := hA
  obtain ⟨rfl, rfl⟩ := trodVars_none hV
  simp only [List.append_nil] at hW'
  rw [Tryz.params4] at hA2 hval
  obtain ⟨v0, v1, v2, v3, d0, d1, d2, d3, p0, p1, p2, p3, rfl, rfl, rfl, h0, h1, h2, h3⟩ := trodAll_four hA2
  obtain ⟨A0, A1, A2, n0, n1, n2, c0, c1, c2, q0, q1, q2, rfl, g0, g1, g2, i0, i1, i2⟩ := open_case h0 (hval 0 25 v0 rfl rfl)
  obtain ⟨Lr, hLr, hLs⟩ := open_reqs h1 (okWide_slice Tryz.underlying26 (hval 1 26 v1 rfl rfl))
  obtain ⟨xa, xc, inn, rfl, ha, hc, hin⟩ := open_change (hval 2 39 v2 rfl rfl)
  obtain ⟨s3, rfl, rfl, rfl, -⟩ := Go.ChangeMaps.open_string Tryz.underlying9 (hval 3 9 v3 rfl rfl) h3
  refine (codes_law A0 A1 A2 n0 n1 n2 c0 c1 c2 q0 q1 q2 v1 Lr xa xc inn s3 W g0 g1 g2 i0 i1 i2 hLr hLs ha.1 (by omega) hc.1 (by omega) ⟨tabs_of_laid hL, maxLen_of hsh⟩ (errs_of_laid hL)).mono fun e W' ⟨he, hbe⟩ => ?_
  subst he
  exact ⟨_, rfl, law_post A_laidOut (by rw [Tryz.params4]; decide +kernel) rfl (by kernel_rfl) Tryz.underlying4 rfl hW' hA hbe⟩

theorem requestCodes_holds : Rows.RequestCodesSaid :=
  OpenClaim.holds_of_wide 4 Tryz.f4 rfl rfl rfl rfl rfl rfl rfl ⟨rfl, rfl, rfl, rfl, rfl⟩ rfl rfl rfl rfl rfl (by kernel_rfl) Tryz.func4 (by kernel_rfl)
    (of_decide_eq_true (by kernel_rfl)) (by unfold Func.isWrapper; first | (rw [if_pos (by decide +kernel)]; kernel_rfl) | (rw [if_neg (by decide +kernel)]; exact ⟨rfl, rfl⟩))
    (fun os started H enc _ => requestCodes_lifted os started H enc)
end Go.Proofs.YtanmmooflhomoaaGreatDoor
