/- The law MarketFirst, walked: it returns true. -/
import Derived.Test.YtbihaoadgcckhaaMkFr
import Derived.Test.YtbihaoadgcckhaaMkSl
import Derived.Deep.DeepCutAuto
namespace Go.Proofs.Ytbihaoadgcckhaa
open Go Go.Proofs Go.RowKit Go.Maps Go.Sort Go.Lib
attribute [local go_sem] Req.cells

/-- 'Priority++', of the first k. -/
def incR (r : Req) : Req := { r with priority := r.priority + 1 }
def mixR (k : Nat) (L : List Req) : List Req := (L.take k).map incR ++ L.drop k
theorem mixR_zero (L : List Req) : mixR 0 L = L := by simp [mixR]
theorem mixR_all (L : List Req) : mixR L.length L = L.map incR := by simp [mixR]
theorem mixR_len (k : Nat) (L : List Req) : (mixR k L).length = L.length := by simp [mixR]; omega
theorem mixR_next {k : Nat} {L : List Req} {r : Req} (h : L[k]? = some r) : reqCells (mixR (k + 1) L) = (reqCells (mixR k L)).set (k * 9 + 7) (.int .i64 (r.priority + 1)) := by
  obtain ⟨hk, rfl⟩ := List.getElem?_eq_some_iff.1 h
  have e1 : L.take (k + 1) = L.take k ++ [L[k]] := (List.take_append_getElem hk).symm
  have e2 : L.drop k = L[k] :: L.drop (k + 1) := (List.getElem_cons_drop hk).symm
  unfold mixR
  have hl : (reqCells ((L.take k).map incR)).length = k * 9 := by rw [reqCells_len]; simp; omega
  rw [e1, e2, List.map_append, List.append_assoc]
  generalize (L.take k).map incR = a at hl ⊢
  generalize L.drop (k + 1) = d
  rw [reqCells_app a, reqCells_app a (L[k] :: d), List.set_append_right _ _ (by omega), hl, show k * 9 + 7 - k * 9 = 7 by omega]
  rfl
theorem mixR_at {k : Nat} {L : List Req} {r : Req} (h : L[k]? = some r) : (mixR k L)[k]? = some r := by
  obtain ⟨hk, rfl⟩ := List.getElem?_eq_some_iff.1 h
  unfold mixR
  rw [List.getElem?_append_right (by simp; omega)]
  simp [Nat.min_eq_left (Nat.le_of_lt hk)]
theorem own_setCell {w : World} {base e k n g cap : Nat} {xs : List Value} (h : w.ownsRow base e k (.slice (some ⟨g, 0, none⟩) n cap) n xs) (j : Nat) (_hj : j < xs.length) (u : Value) : (w.setCell ⟨g, j, none⟩ u).ownsRow base e k (.slice (some ⟨g, 0, none⟩) n cap) n (xs.set j u) := by
  refine ⟨by rw [List.length_set]; exact h.1, ?_⟩
  rcases h.2 with ⟨h2, _⟩ | ⟨g', cap', cur, h2, hb, hg, hn, hm, hs, ht⟩
  · cases h2
  · injection h2 with e1 _ e3
    injection e1 with e1
    injection e1 with e1
    subst e1; subst e3
    refine .inr ⟨g, cap, cur.setIfInBounds j u, rfl, hb, ?_, hn, hm, by simpa using hs, ?_⟩
    · simp [World.setCell, Array.getElem?_modify, hg]
    · rw [Array.toList_setIfInBounds, List.take_set, ht]
theorem pln_inc {es : List Req} (h : PlnL 0 3 es) : PlnL 1 4 (es.map incR) := fun k r hk => by
  rw [List.getElem?_map, Option.map_eq_some_iff] at hk
  obtain ⟨x, hx, rfl⟩ := hk
  have hp := h k x hx
  have h0 := hp.p0
  have h1 := hp.p1
  exact hp.prio (by omega) (by omega)
/-- What is dealt out, and who waits, has been asked for. -/
theorem deal_asked {L : List Off} {M : List Seat} {most : Int} (O : List Req) : ∀ x, x ∈ (dealP L M most O).seats ∨ x ∈ (dealP L M most O).waits → ∃ r ∈ O, x = seatOf r := by
  refine snoc_ind (p := fun O => ∀ x, x ∈ (dealP L M most O).seats ∨ x ∈ (dealP L M most O).waits → ∃ r ∈ O, x = seatOf r) (fun x hx => ?_) (fun a r ih x hx => ?_) O
  · rcases hx with hx | hx <;> cases hx
  · rw [dealP_snoc] at hx
    have old : ∀ y, y ∈ (dealP L M most a).seats ∨ y ∈ (dealP L M most a).waits → ∃ r' ∈ a ++ [r], y = seatOf r' := fun y hy => by
      obtain ⟨r', h1, h2⟩ := ih y hy
      exact ⟨r', List.mem_append_left _ h1, h2⟩
    have new : ∃ r' ∈ a ++ [r], seatOf r = seatOf r' := ⟨r, by simp, rfl⟩
    unfold stepD at hx
    split at hx
    · rcases hx with hx | hx
      · rw [List.mem_append, List.mem_singleton] at hx
        rcases hx with hx | rfl
        · exact old x (.inl ((others_sub _ _).subset hx))
        · exact new
      · exact old x (.inr hx)
    · split at hx
      · exact old x hx
      · rcases hx with hx | hx
        · exact old x (.inl hx)
        · simp only [List.mem_append, List.mem_singleton] at hx
          rcases hx with hx | rfl
          · exact old x (.inr hx)
          · exact new
theorem pln_wf {q lo hi : Int} {r : Req} (h : Pln q lo hi r) : (seatOf r).wf := by
  have h0 := h.t0
  have h1 := h.t1
  refine ⟨?_, by have := fs_size _ h.cd; show r.code.size ≤ maxLen; unfold maxLen; omega⟩
  show (Lit.int .i64 r.student).wf = true
  simp [Lit.wf, IntKind.min, IntKind.max, IntKind.signed, IntKind.bits]
  omega
theorem pln_wfs {lo hi : Int} {A O : List Req} {L : List Off} {M : List Seat} {most : Int} (h : PlnL lo hi A) (hO : IsOrd O A) : ∀ x, x ∈ (dealP L M most O).seats ∨ x ∈ (dealP L M most O).waits → x.wf := fun x hx => by
  obtain ⟨r, hr, rfl⟩ := deal_asked O x hx
  obtain ⟨k, _, hp⟩ := h.mem (hO.1.mem_iff.1 hr)
  exact pln_wf hp
theorem DealIn.rows {w : World} {p q : Option Addr} {n m c e : Nat} {d : Deal} (h : DealIn w (.agg #[.slice p n c, .slice q m e]) d) : RowIn Seat.cells w (.slice p n c) d.seats ∧ RowIn Seat.cells w (.slice q m e) d.waits := by
  obtain ⟨p', c', q', e', h1, h2, h3⟩ := h.val
  injection h1 with h1
  simp only [Array.mk.injEq, List.cons.injEq, and_true] at h1
  rw [h1.1, h1.2]
  exact ⟨h2, h3⟩
set_option maxHeartbeats 8000000 in
set_option maxRecDepth 100000 in
theorem first_law (A0 A1 A2 : Option Addr) (n0 n1 n2 c0 c1 c2 : Nat) (q m : Int) (w : World) (h0 : IntsIn w.heap.size A0 n0 w) (h1 : IntssIn w.heap.size A1 n1 w) (h2 : IntsIn w.heap.size A2 n2 w) (hq0 : 0 ≤ q) (hq1 : q ≤ 4294967295) (hm0 : 0 ≤ m) (hm1 : m ≤ 255) :
    Calls Try.prog 3 #[.agg #[.slice A0 n0 c0, .slice A1 n1 c1, .int .u32 q, .int .u8 m], .slice A2 n2 c2] w fun x w' => x = .returned (.bool true) ∧ RowKit.Below w.heap.size w w' := by
  have H0 := Lib.hid h0
  have H1 := Lib.hid h1
  have H2 := Lib.hid h2
  clear h0 h1 h2
  have hb0 := below_alloc1 w (.cells #[.slice A0 n0 c0, .slice A1 n1 c1, .int .u32 q, .int .u8 m] 26)
  have hx0 : ∀ j, (w.alloc (.cells #[.slice A0 n0 c0, .slice A1 n1 c1, .int .u32 q, .int .u8 m] 26)).cell? ⟨w.heap.size, j, none⟩ = (#[.slice A0 n0 c0, .slice A1 n1 c1, .int .u32 q, .int .u8 m] : Array Value)[j]? := fun j => Lib.cell_of_heap (heap_alloc_new w _) j
  have hl0 : w.heap.size < (w.alloc (.cells #[.slice A0 n0 c0, .slice A1 n1 c1, .int .u32 q, .int .u8 m] 26)).heap.size := by simp
  go_enter Try.func3, Try.ntmps3
  go_wp2_with fail
  generalize w.alloc _ = W at hb0 hx0 hl0 ⊢
  refine (mk_sanity_any _).mono ?_
  rintro _ w1 ⟨rfl, hb⟩
  have hx1 : ∀ j, w1.cell? ⟨w.heap.size, j, none⟩ = (#[.slice A0 n0 c0, .slice A1 n1 c1, .int .u32 q, .int .u8 m] : Array Value)[j]? := fun j => (hb.cell (p := ⟨w.heap.size, j, none⟩) hl0).trans (hx0 j)
  have hb1 := below_next hb0 hb
  have hl1 : w.heap.size < w1.heap.size := Nat.lt_of_lt_of_le hl0 hb.size
  clear hb hx0 hb0 hl0
  go_wp2_with fail
  refine (mk_case_any A0 A1 n0 n1 c0 c1 q m w1 (ints_at H0.out hb1) (intss_at H1.out hb1) hq0 hq1 hm0 hm1).mono ?_
  rintro _ w2 ⟨ov, mv, lv, L, M, most, A', rfl, hC, hb⟩
  have hx2 : ∀ j, w2.cell? ⟨w.heap.size, j, none⟩ = (#[.slice A0 n0 c0, .slice A1 n1 c1, .int .u32 q, .int .u8 m] : Array Value)[j]? := fun j => (hb.cell (p := ⟨w.heap.size, j, none⟩) hl1).trans (hx1 j)
  have hb2 := below_next hb1 hb
  have HC2 := Lib.hid hC.cat
  have HGL := Lib.hid hC.good
  clear hb hx1 hb1 H0 hC hl1
  go_wp2_with fail
  refine (plain_any A1 n1 c1 w2 (intss_at H1.out hb2)).mono ?_
  rintro _ w3 ⟨pv, es, rfl, les, hpl, hown, hb⟩
  have HP := Lib.hid (pln_inc hpl)
  have HB3 := Lib.hid hb
  clear hx2 hb H1 hpl
  obtain ⟨pp, cp, rfl⟩ := own_form hown
  go_wp2_with fail
  go_loopw [34] (fun i wr => ∃ k : Nat, k ≤ es.length ∧ i = .int .i64 k ∧ wr.ownsRow w2.heap.size 35 9 (.slice pp es.length cp) es.length (reqCells (mixR k es)) ∧ RowKit.Below w2.heap.size w2 wr) (fun i _ => es.length - (RowKit.intOf i).toNat)
  case atStart => exact ⟨0, Nat.zero_le _, rfl, by rw [mixR_zero]; exact hown, HB3.out⟩
  case round =>
    obtain ⟨k, hk, rfl, hwn, hbr⟩ := hrel
    by_cases hlt : k < es.length
    · obtain ⟨r, hr⟩ : ∃ r, es[k]? = some r := ⟨_, List.getElem?_eq_getElem hlt⟩
      rcases hwn.2 with ⟨e, _⟩ | ⟨g, cap', cur, e, hgb, hg, _⟩
      · injection e with _ e; omega
      · injection e with e1 _ e3
        subst e1; subst e3
        have hc7 : wr.cell? ⟨g, k * 9 + 7, none⟩ = some (.int .i64 r.priority) := by
          have := hwn.cells (g := g) rfl (k * 9 + 7) (.int .i64 r.priority) (flatE_at (enc := encR) (k := 9) (fun _ => rfl) (mixR_at hr) rfl)
          rwa [add_plain, Nat.zero_add] at this
        have hf7 : wr.frozen? ⟨g, k * 9 + 7, none⟩ = false := Lib.frozen_of_heap hg _
        have hp0 := (HP.out k _ (by rw [List.getElem?_map, hr]; rfl)).p0
        have hp1 := (HP.out k _ (by rw [List.getElem?_map, hr]; rfl)).p1
        have hp2 : 1 ≤ r.priority + 1 := hp0
        have hp3 : r.priority + 1 ≤ 4 := hp1
        have hcp : (reqCells (mixR k es)).length = es.length * 9 := by rw [reqCells_len, mixR_len]
        have hlt2 : (k : Int) < (es.length : Int) := by omega
        clear hp0 hp1
        go_wp2_with fail
        refine ⟨⟨k + 1, by omega, by go_num, ?_, hbr.setCell hgb _⟩, by simp [RowKit.intOf]; omega⟩
        rw [mixR_next hr]
        exact own_setCell hwn _ (by omega) _
    · obtain rfl : k = es.length := by omega
      rw [mixR_all] at hwn
      obtain ⟨A, hA⟩ : ∃ A, es.map incR = A := ⟨_, rfl⟩
      have hAl : es.length = A.length := by rw [← hA, List.length_map]
      rw [hA] at HP hwn
      rw [hAl] at hwn les ⊢
      clear hA hAl hown HB3 hk
      have hreq := reqsIn_own hwn
      have hb4 := below_next hb2 hbr
      have HC4 := Lib.hid (HC2.out.below hbr)
      clear hwn hbr HC2
      go_wp2_with fail
      refine (deal_cat 19 sortsB_19 (by omega) ov mv _ L M most A wr HC4.out hreq (by omega) (fun r hr => (HP.out.small (by omega) (by omega) (by omega) r hr).fits) (fun M' hM' => by have := actR_len_le hM'; omega)).mono ?_
      rintro _ w5 ⟨sv, wv, O, rfl, hO, hs3, hw3, hb⟩
      have HO := Lib.hid (HP.out.ord (by omega) (by omega) hO)
      have lO : O.length ≤ 12 := by have := hO.len; omega
      have lens := deal_len (L := L) (met := M) (most := most) O
      have HR5 := Lib.hid (hreq.below hb).row
      have HC5 := Lib.hid (HC4.out.below hb)
      have hb5 := below_next hb4 hb
      have HWF := Lib.hid (pln_wfs (L := L) (M := M) (most := most) HP.out HO.out)
      have HWT := Lib.hid (fun (s : Seat) (hs : s ∈ (dealP L M most O).waits) => wait_bad (M := M) (most := most) HGL.out.calm HP.out les HO.out hs)
      obtain ⟨pd, cd, rfl, _⟩ := hs3.form
      obtain ⟨pw, cw, rfl, _⟩ := hw3.form
      clear hb hb4 hreq HC4 hO
      obtain ⟨dd, hdd⟩ : ∃ dd, dealP L M most O = dd := ⟨_, rfl⟩
      rw [hdd] at hs3 hw3 lens HWF HWT ⊢
      obtain ⟨D, Wt⟩ := dd
      have HDD := Lib.hid hdd
      clear hdd
      dsimp only at hs3 hw3 lens HWF HWT ⊢
      have lD : D.length ≤ 12 := by omega
      have lW : Wt.length ≤ 12 := by omega
      clear lens
      go_wp2_with fail
      have hba := below_alloc1 w5 (.cells #[.slice pd D.length cd, .slice pw Wt.length cw] 37)
      have hcell : ∀ j, (w5.alloc (.cells #[.slice pd D.length cd, .slice pw Wt.length cw] 37)).cell? ⟨w5.heap.size, j, none⟩ = (#[.slice pd D.length cd, .slice pw Wt.length cw] : Array Value)[j]? := fun j => Lib.cell_of_heap (heap_alloc_new w5 _) j
      have hclt : w5.heap.size < (w5.alloc (.cells #[.slice pd D.length cd, .slice pw Wt.length cw] 37)).heap.size := by simp
      have hb6 := below_next hb5 hba
      replace hs3 := hs3.below hba
      replace hw3 := hw3.below hba
      replace HR5 := Lib.hid (HR5.out.below hba)
      replace HC5 := Lib.hid (HC5.out.below hba)
      clear hba hb5
      generalize w5.heap.size = db at hcell hclt ⊢
      generalize w5.alloc _ = W6 at hcell hclt hs3 hw3 HR5 HC5 hb6 ⊢
      go_loopw [54] (fun i wr => ∃ k : Nat, k ≤ Wt.length ∧ i = .int .i64 k ∧ RowKit.Below W6.heap.size W6 wr) (fun i _ => Wt.length - (RowKit.intOf i).toNat)
      case atStart => exact ⟨0, Nat.zero_le _, rfl, Below.refl _ _⟩
      case round =>
        obtain ⟨k, hk, rfl, hbk⟩ := hrel
        by_cases hlt : k < Wt.length
        · obtain ⟨s, hs⟩ : ∃ s, Wt[k]? = some s := ⟨_, List.getElem?_eq_getElem hlt⟩
          obtain ⟨b, o, cc, hv, _, hbl, hx⟩ := hw3.at_ (k := 2) (fun _ => rfl) (by omega)
          obtain rfl := (Value.slice.inj hv).1
          have hat := hx k s hs
          have g0 : wr.cell? ⟨b, o + k * 2, none⟩ = some (.int .i64 s.student) := by rw [hbk.cell (p := ⟨b, o + k * 2, none⟩) hbl]; exact hat 0 _ rfl
          have g1 : wr.cell? ⟨b, o + k * 2 + 1, none⟩ = some (.string s.code) := by rw [hbk.cell (p := ⟨b, o + k * 2 + 1, none⟩) hbl]; exact hat 1 _ rfl
          have hlt2 : (k : Int) < (Wt.length : Int) := by omega
          clear hv hx hat
          go_wp2_with fail
          have hba := below_alloc1 wr (.cells #[.int .i64 s.student, .string s.code] 40)
          have hsc : wr.heap.size < (wr.alloc (.cells #[.int .i64 s.student, .string s.code] 40)).heap.size ∧ ∀ j, (wr.alloc (.cells #[.int .i64 s.student, .string s.code] 40)).cell? ⟨wr.heap.size, j, none⟩ = (#[.int .i64 s.student, .string s.code] : Array Value)[j]? := ⟨by simp, fun j => Lib.cell_of_heap (heap_alloc_new wr _) j⟩
          have hb7 := below_next hbk hba
          clear hba g0 g1 hbl hlt2
          generalize wr.heap.size = sb at hsc ⊢
          generalize wr.alloc _ = W7 at hsc hb7 ⊢
          refine fst_r13 db sb pd cd D s W7 _ (Nat.lt_of_lt_of_le hclt hb7.size) ((hb7.cell (p := ⟨db, 0, none⟩) hclt).trans (hcell 0)) (hs3.below hb7) (by omega) hsc ?_
          intro u58 u61 u63 u64 u65 b p c wx hb8 hlo hbx hown
          have hb9 := below_next hb7 hb8
          have hcx : b < wx.heap.size ∧ ∀ j, wx.cell? ⟨b, j, none⟩ = (#[.slice p (D ++ [s]).length c, .slice none 0 0] : Array Value)[j]? := ⟨lt_of_heap hbx, fun j => Lib.cell_of_heap hbx j⟩
          have hdx : wx.cell? ⟨db, 0, none⟩ = some (.slice pd D.length cd) := (hb9.cell (p := ⟨db, 0, none⟩) hclt).trans (hcell 0)
          have hsx : ∀ j, wx.cell? ⟨sb, j, none⟩ = (#[.int .i64 s.student, .string s.code] : Array Value)[j]? := fun j => (hb8.cell (p := ⟨sb, j, none⟩) hsc.1).trans (hsc.2 j)
          clear hb7 hsc hb8
          go_upto_region 14 with fail
          refine fst_r14 db sb b ov mv most L M pd p cd c D s wx _ (HC5.out.below hb9) (hs3.below hb9) (by omega) hdx hcx hsx (rowIn_own (k := 2) (fun _ => rfl) (by decide) hown) (fun x hx => by
              rw [List.mem_append, List.mem_singleton] at hx
              rcases hx with hx | rfl
              · exact HWF.out x (.inl hx)
              · exact HWF.out x (.inr (List.mem_of_getElem? hs))) (HWT.out s (List.mem_of_getElem? hs)) ?_
          clear hcx hdx hsx hown hbx
          intro u66 u67 u68 u69 u70 u71 u72 u73 u74 u75 u76 u77 wy hb
          have hb10 := below_next hb9 hb
          clear hb9 hb
          go_wp2_with fail
          exact ⟨⟨k + 1, by omega, by go_num, hb10⟩, by simp [RowKit.intOf]; omega⟩
        · obtain rfl : k = Wt.length := by omega
          clear hw3 HWT
          go_wp2_with fail
          have hbw := below_next hb6 hbk
          refine (sgl_any A2 n2 c2 100 wr (ints_at H2.out hbw)).mono ?_
          rintro _ w7 ⟨r, rfl, hr, hb⟩
          have hb7 := below_next hbk hb
          clear hb hbw H2
          go_wp2_with fail
          have hbx : ReqBox (w7.alloc (.cells #[.int .i64 r.server, .int .i64 r.seq, .bool r.cancel, .int .i64 r.student, .int .i64 r.term, .string r.code, .string r.give, .int .i64 0, .int .i64 r.day] 35)) w7.heap.size { r with priority := 0 } := heap_alloc_new w7 _
          have hb8 := below_next hb7 (below_alloc1 w7 (.cells #[.int .i64 r.server, .int .i64 r.seq, .bool r.cancel, .int .i64 r.student, .int .i64 r.term, .string r.code, .string r.give, .int .i64 0, .int .i64 r.day] 35))
          have hlb := hb7.size
          have hp0 : Pln 100 0 0 { r with priority := 0 } := hr.prio (by decide) (by decide)
          have hp1 : Pln 100 100 100 { r with priority := 100 } := hr.prio (by decide) (by decide)
          clear hb7
          generalize w7.heap.size = lb at hbx hlb ⊢
          generalize w7.alloc _ = W8 at hbx hb8 ⊢
          have HP0 := Lib.hid hp0
          have HP1 := Lib.hid hp1
          have HR0 := Lib.hid hr
          clear hp0 hp1 hr
          refine fst_r19 lb ov mv (.slice pp A.length cp) most L M A (O ++ [{ r with priority := 0 }]) { r with priority := 0 } W8 _ (HC5.out.below hb8) (HR5.out.below hb8) (by omega) hbx (again_last HP.out les HO.out HP0.out) (by rw [List.length_append, List.length_singleton]; omega) ?_
          intro u86 u88 u90 u91 u92 eb pe ce qe de w9 hb hlo hex hdl
          have hb9 := below_next hb8 hb
          have hb9l := hb
          replace hbx := hbx.below hb
          have hE := last_seats (L := L) (M := M) (most := most) (O := O) HP0.out.none
          rw [HDD.out] at hE
          generalize dealP L M most (O ++ [{ r with priority := 0 }]) = EE at hE hdl hex ⊢
          obtain ⟨E, EW⟩ := EE
          dsimp only at hE hdl hex ⊢
          have hre := hdl.rows.1
          have hec := Lib.cell_of_heap hex 0
          have hel := lt_of_heap hex
          clear hb hb8 hlo hex hdl
          go_wp2_with fail
          refine fst_r20 db eb pd pe cd ce D E w9 _ ⟨Nat.lt_of_lt_of_le hclt hb9.size, (hb9.cell (p := ⟨db, 0, none⟩) hclt).trans (hcell 0)⟩ ⟨hel, hec⟩ (hs3.below hb9) hre (by omega) (by omega) (by omega) hE.1 ?_
          intro u119 u120 w10 hb
          have hb10 := below_next hb9 hb
          replace hbx := hbx.below hb
          clear hb hb9 hE hre hec hel
          have k3 : w10.cell? ⟨lb, 3, none⟩ = some (.int .i64 r.student) := hbx.cell 3
          have k5 : w10.cell? ⟨lb, 5, none⟩ = some (.string r.code) := hbx.cell 5
          have k7 : w10.cell? ⟨lb, 7, none⟩ = some (.int .i64 0) := hbx.cell 7
          have kf : ∀ j, w10.frozen? ⟨lb, j, none⟩ = false := hbx.frozen
          go_wp2_with fail
          have hby := hbx.set (e' := { r with priority := 100 }) 7 (.int .i64 100) rfl
          have hb11 := hb10.setCell (p := ⟨lb, 7, none⟩) hlb (.int .i64 100)
          clear hbx hb10 k3 k5 k7 kf
          generalize w10.setCell ⟨lb, 7, none⟩ (.int .i64 100) = W11 at hby hb11 ⊢
          refine (seat_any r.student r.code W11).mono ?_
          rintro _ w12 ⟨rfl, hb⟩
          have hb12 := below_next hb11 hb
          replace hby := hby.below hb
          clear hb hb11
          go_wp2_with fail
          have hba := below_alloc1 w12 (.cells #[.int .i64 r.student, .string r.code] 40)
          have hsx : w12.heap.size < (w12.alloc (.cells #[.int .i64 r.student, .string r.code] 40)).heap.size ∧ ∀ j, (w12.alloc (.cells #[.int .i64 r.student, .string r.code] 40)).cell? ⟨w12.heap.size, j, none⟩ = (#[.int .i64 r.student, .string r.code] : Array Value)[j]? := ⟨by simp, fun j => Lib.cell_of_heap (heap_alloc_new w12 _) j⟩
          have hb13 := below_next hb12 hba
          replace hby := hby.below hba
          clear hba hb12
          generalize w12.heap.size = sb at hsx ⊢
          generalize w12.alloc _ = W13 at hsx hby hb13 ⊢
          refine fst_r24 lb ov mv (.slice pp A.length cp) most L M A ({ r with priority := 100 } :: O) { r with priority := 100 } W13 _ (HC5.out.below hb13) (HR5.out.below hb13) (by omega) hby (again_first HP.out les HO.out HP1.out) (by rw [List.length_cons]; omega) ?_
          intro u131 u133 u135 u136 u137 fb pf cf qf df w14 hb hlo hfx hfl
          have hb14 := below_next hb13 hb
          have hF := first_seat (L := L) (M := M) (most := most) HGL.out.calm HP.out les HO.out HP1.out
          generalize dealP L M most ({ r with priority := 100 } :: O) = FF at hF hfl hfx ⊢
          obtain ⟨F, FW⟩ := FF
          dsimp only at hF hfl hfx ⊢
          have hrf := hfl.rows.1
          have hfc := Lib.cell_of_heap hfx 0
          have hfl2 := lt_of_heap hfx
          have hsy : ∀ j, w14.cell? ⟨sb, j, none⟩ = (#[.int .i64 r.student, .string r.code] : Array Value)[j]? := fun j => (hb.cell (p := ⟨sb, j, none⟩) hsx.1).trans (hsx.2 j)
          have hsl := Nat.lt_of_lt_of_le hsx.1 hb.size
          have hb15 := hb14.alloc hb14.size (.cells #[.int .i64 r.student, .string r.code] 40)
          have hk1 := check_any ov mv (.slice (some ⟨w14.heap.size, 0, none⟩) 1 1) (.slice none 0 0) L M most [seatOf r] [] (w14.alloc (.cells #[.int .i64 r.student, .string r.code] 40)) (HC5.out.below hb15) (rowIn_lit (enc := Seat.cells) (e := 40) w14 [seatOf r] #[.int .i64 r.student, .string r.code] w14.heap.size rfl rfl 1 rfl) (RowIn.nil _ _) (by simp) (fun x hx => by rw [List.mem_singleton] at hx; subst hx; exact pln_wf HR0.out)
          rw [show ([seatOf r] : List Seat).length = 1 from rfl, fs_one] at hk1
          have hF2 : F[0]? = some (seatOf r) ↔ fitsP L M most [] (seatOf r) = 0 := hF
          obtain ⟨eA, hA⟩ : ∃ e, fitsP L M most [] (seatOf r) = e := ⟨_, rfl⟩
          rw [hA] at hk1 hF2
          clear hA hF hb hlo hfx hfl hby hb13 hsx
          go_wp2_with fail
          refine hk1.mono ?_
          rintro _ w15 ⟨rfl, hb⟩
          have hb16 := below_next hb15 hb
          have hbz := below_next (below_alloc1 w14 (.cells #[.int .i64 r.student, .string r.code] 40)) hb
          obtain ⟨al, hal⟩ : ∃ b : Bool, (eA == 0) = b := ⟨_, rfl⟩
          have hal2 : decide (eA = 0) = al := by rw [← hal, Bool.eq_iff_iff, decide_eq_true_eq, beq_iff_eq]
          clear hk1 hb hb15
          replace hrf := hrf.below hbz
          have hfd : fb < w15.heap.size ∧ w15.cell? ⟨fb, 0, none⟩ = some (.slice pf F.length cf) := ⟨Nat.lt_of_lt_of_le hfl2 hbz.size, (hbz.cell (p := ⟨fb, 0, none⟩) hfl2).trans hfc⟩
          have hsz : sb < w15.heap.size ∧ ∀ j, w15.cell? ⟨sb, j, none⟩ = (#[.int .i64 r.student, .string r.code] : Array Value)[j]? := ⟨Nat.lt_of_lt_of_le hsl hbz.size, fun j => (hbz.cell (p := ⟨sb, j, none⟩) hsl).trans (hsy j)⟩
          clear hfl2 hfc hsl hsy hbz hb14
          go_wp2_with fail
          rcases F with _ | ⟨x, F⟩
          · have e0 : ¬ eA = 0 := fun e => by have := hF2.2 e; cases this
            obtain rfl : al = false := by rw [← hal2]; exact decide_eq_false e0
            refine fst_r26n fb sb cf pf w15 _ hfd ?_
            intro wz hb
            have hbz := below_next hb6 (below_next hb16 hb)
            go_wp2_with fail
            go_ret
            exact ⟨rfl, hbz⟩
          · obtain ⟨b, o, c', hv, _, hbl, hx⟩ := hrf.at_ (k := 2) (fun _ => rfl) (by simp)
            have e1 := (Value.slice.inj hv).1
            subst e1
            have hat : SeatAt w15 b o [.int .i64 x.student, .string x.code] := ⟨hbl, by have := hx 0 x rfl; simpa [Seat.cells] using this⟩
            have hxal : eqSeat ⟨x.student, x.code⟩ ⟨r.student, r.code⟩ = al := by
              rw [← hal2, Bool.eq_iff_iff, eqSeat_iff, decide_eq_true_eq, ← hF2]
              exact (Option.some_inj (a := x) (b := seatOf r)).symm
            refine fst_r26s fb sb cf al b o F x (seatOf r) w15 _ hfd hat hsz hxal ?_
            intro wz hb
            have hbz := below_next hb6 (below_next hb16 hb)
            go_wp2_with fail
            go_ret
            exact ⟨rfl, hbz⟩
end Go.Proofs.Ytbihaoadgcckhaa
