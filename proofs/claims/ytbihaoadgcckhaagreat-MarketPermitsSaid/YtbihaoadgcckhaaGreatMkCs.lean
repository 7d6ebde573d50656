/- quadriviumlaw28.Case.made: a catalog, who has met what, the credits, requests. -/
import Derived.Test.YtbihaoadgcckhaaGreatMkMf
import Derived.Test.YtbihaoadgcckhaaGreatRqMade
namespace Go.Proofs.YtbihaoadgcckhaaGreat
open Go Go.Proofs Go.RowKit Go.Maps Go.Sort Go.Lib

theorem ints_up {B B' : Nat} {S : Option Addr} {N : Nat} {w : World} (h : IntsIn B S N w) (hB : B ≤ B') : IntsIn B' S N w :=
  ⟨h.1, fun j hj => by
    obtain ⟨b, off, z, hA, hb, hc, hz⟩ := h.2 j hj
    exact ⟨b, off, z, hA, Nat.lt_of_lt_of_le hb hB, hc, hz⟩⟩
theorem ints_at {S : Option Addr} {N : Nat} {w w' : World} (h : IntsIn w.heap.size S N w) (hb : RowKit.Below w.heap.size w w') : IntsIn w'.heap.size S N w' := ints_up (h.below hb) hb.size
theorem intss_at {S : Option Addr} {N : Nat} {w w' : World} (h : IntssIn w.heap.size S N w) (hb : RowKit.Below w.heap.size w w') : IntssIn w'.heap.size S N w' :=
  ⟨h.1, fun j hj => by
    obtain ⟨b, off, A, n, c, hA, hB, hc, hi⟩ := (h.below hb).2 j hj
    exact ⟨b, off, A, n, c, hA, Nat.lt_of_lt_of_le hB hb.size, hc, ints_up hi hb.size⟩⟩
theorem Req.Small.fits {r : Req} (h : r.Small) : r.fits := ⟨h.wf, by have := h.code; omega, by have := h.give; omega⟩
theorem GoodL.calm {k : Nat} {L : List Off} (h : GoodL k L) : Calm L := fun o ho => ⟨(h.1 o ho).c0, by have := (h.1 o ho).c1; omega⟩
theorem codesL_small {c : ByteArray} (h : c ∈ codesL) : c.size ≤ 2 := by
  have : ∀ c ∈ codesL, c.size ≤ 2 := by decide
  exact this c h
theorem GoodL.cat {k : Nat} {w : World} {ov mv : Value} {L : List Off} {M : List Seat} (h : GoodL k L) (ho : RowIn Off.cells w ov L) (hok : ∀ o ∈ L, OffOk w o) (hm : RowIn Seat.cells w mv M) (hs : ∀ s ∈ M, s.wf) (lm : M.length ≤ 1000000) : CatIn w ov mv L M where
  off := ho
  ok o hx := ⟨hok o hx, by have := (h.1 o hx).sl; unfold Off.few; omega⟩
  code o hx := by have := codesL_small (h.1 o hx).code; unfold maxLen; omega
  met := hm
  wf := hs
  lo := by have := h.len; omega
  lm := lm
/-- What 'made' leaves. -/
structure MkCase (w' : World) (ov mv rv : Value) (L : List Off) (M : List Seat) (most : Int) (R : List Req) : Prop where
  cat : CatIn w' ov mv L M
  good : GoodL 6 L
  m0 : 0 ≤ most
  m1 : most ≤ 39
  req : ReqsIn w' rv R
  lr : R.length ≤ 16
  small : ∀ r ∈ R, r.Small
theorem MkCase.below {w w' : World} {ov mv rv : Value} {L : List Off} {M : List Seat} {most : Int} {R : List Req} (h : MkCase w ov mv rv L M most R) (hb : RowKit.Below w.heap.size w w') : MkCase w' ov mv rv L M most R :=
  ⟨h.cat.below hb, h.good, h.m0, h.m1, h.req.below hb, h.lr, h.small⟩
def MkCasePost (w : World) (x : Ending) (w' : World) : Prop := ∃ ov mv rv L M most R, x = .returned (.tuple #[ov, mv, .int .i64 most, rv]) ∧ MkCase w' ov mv rv L M most R ∧ RowKit.Below w.heap.size w w'
set_option maxHeartbeats 4000000 in
set_option maxRecDepth 100000 in
theorem mk_case_any (A0 A1 : Option Addr) (n0 n1 c0 c1 : Nat) (q m : Int) (w : World) (h0 : IntsIn w.heap.size A0 n0 w) (h1 : IntssIn w.heap.size A1 n1 w) (hq0 : 0 ≤ q) (hq1 : q ≤ 4294967295) (hm0 : 0 ≤ m) (hm1 : m ≤ 255) :
    Calls Tryz.prog 7 #[.agg #[.slice A0 n0 c0, .slice A1 n1 c1, .int .u32 q, .int .u8 m]] w (MkCasePost w) := by
  have hb0 := below_alloc1 w (.cells #[.slice A0 n0 c0, .slice A1 n1 c1, .int .u32 q, .int .u8 m] 26)
  have hx0 : ∀ j, (w.alloc (.cells #[.slice A0 n0 c0, .slice A1 n1 c1, .int .u32 q, .int .u8 m] 26)).cell? ⟨w.heap.size, j, none⟩ = (#[.slice A0 n0 c0, .slice A1 n1 c1, .int .u32 q, .int .u8 m] : Array Value)[j]? := fun j => Lib.cell_of_heap (heap_alloc_new w _) j
  have hl0 : w.heap.size < (w.alloc (.cells #[.slice A0 n0 c0, .slice A1 n1 c1, .int .u32 q, .int .u8 m] 26)).heap.size := by simp
  have H0 := Lib.hid h0
  have H1 := Lib.hid h1
  clear h0 h1
  go_enter Tryz.func7, Tryz.ntmps7
  go_wp2_with fail
  generalize w.alloc _ = W at hb0 hx0 hl0 ⊢
  have keepS : ∀ w', RowKit.Below W.heap.size W w' → RowKit.Below W.heap.size W w' ∧ (∀ j, w'.cell? ⟨w.heap.size, j, none⟩ = (#[.slice A0 n0 c0, .slice A1 n1 c1, .int .u32 q, .int .u8 m] : Array Value)[j]?) := fun w' hb => ⟨hb, fun j => (hb.cell (p := ⟨w.heap.size, j, none⟩) hl0).trans (hx0 j)⟩
  have hS0 := keepS _ (Below.refl W.heap.size W).drew
  have hq2 : IntKind.i64.wrap q = q := IntWalk.i64_in _ (by omega)
  have hm2 : IntKind.i64.wrap m = m := IntWalk.i64_in _ (by omega)
  go_region_held3 (fun w' => RowKit.Below W.heap.size W w' ∧ (∀ j, w'.cell? ⟨w.heap.size, j, none⟩ = (#[.slice A0 n0 c0, .slice A1 n1 c1, .int .u32 q, .int .u8 m] : Array Value)[j]?)) (first | exact hS0 | assumption)
    (first
    | (go_at_call 22; refine (made07_any A0 n0 c0 _ (ints_at H0.out (below_next hb0 (Below.refl _ _).drew))).mono ?_; rintro _ w1 ⟨ov, L, rfl, hov, hok, hgood, hb1⟩; have hS1 := keepS w1 (below_next (Below.refl _ _).drew hb1))
    | (go_at_call 23; refine (met_any q _ hq0 hq1).mono ?_; rintro _ w2 ⟨mv, M, rfl, hmv, hMo, hb2⟩; have hS2 := keepS w2 (below_next hS1.1 hb2))
    | (go_at_call 24; refine (made_any A1 n1 c1 _ (intss_at H1.out (below_next hb0 hS2.1))).mono ?_; rintro _ w3 ⟨rv, R, rfl, hRl, hRs, hrv, hb3⟩; have hS3 := keepS w3 (below_next hS2.1 hb3)))
  go_wp2_with fail
  have h31 := below_next hb0 hS3.1
  have hov3 : RowIn Off.cells w3 ov L := (hov.below hb2).below hb3
  have hok3 : ∀ o ∈ L, OffOk w3 o := fun o ho => ((hok o ho).below hb2).below hb3
  have hmv3 : RowIn Seat.cells w3 mv M := (rowIn_own (k := 2) (fun _ => rfl) (by omega) hmv).below hb3
  have hlm : M.length ≤ 1000000 := by have := hMo.1; omega
  have hm40 : 0 ≤ m.tmod 40 ∧ m.tmod 40 ≤ 39 := by
    have : m.tmod 40 = m % 40 := Int.tmod_eq_emod_of_nonneg hm0
    omega
  refine bodyPost_ret (v := .tuple #[ov, mv, .int .i64 (m.tmod 40), rv]) (by simp [results, Tryz.results7, go_sem]) rfl ⟨ov, mv, rv, L, M, m.tmod 40, R, rfl, ⟨hgood.cat hov3 hok3 hmv3 hMo.2.1 hlm, hgood, hm40.1, hm40.2, reqsIn_own hrv, hRl, hRs⟩, h31⟩
end Go.Proofs.YtbihaoadgcckhaaGreat
