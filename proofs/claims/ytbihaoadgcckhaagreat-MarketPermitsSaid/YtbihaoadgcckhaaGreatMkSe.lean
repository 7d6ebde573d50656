/- market.Seats: the courses in which a student has a seat, sorted. -/
import Derived.Test.YtbihaoadgcckhaaGreatMkMe
import Derived.Test.YtbihaoadgcckhaaGreatMkEq
import Derived.Test.YtbihaoadgcckhaaGreatShelf
import Derived.Sort.OwnSorted
namespace Go.Proofs.YtbihaoadgcckhaaGreat
open Go Go.Proofs Go.RowKit Go.Maps Go.Sort Go.Lib
attribute [local go_sem] Seat.cells

def txtB (c : ByteArray) : List UInt8 := c.data.toList
def txtL (l : List UInt8) : ByteArray := ⟨l.toArray⟩
theorem txt_one (c : ByteArray) : txtL (txtB c) = c := by unfold txtL txtB; simp
theorem txt_map (T : List ByteArray) : (T.map txtB).map txtL = T := by
  rw [List.map_map]
  exact (List.map_congr_left fun c _ => txt_one c).trans (List.map_id _)
theorem flat_txt (ts : List (List UInt8)) : flatE encT (ts.map txtL) = ts.map encStr := by
  induction ts with
  | nil => rfl
  | cons a ts ih =>
    show encT (txtL a) ++ flatE encT (ts.map txtL) = _
    rw [ih]
    rfl
theorem flat_enc (T : List ByteArray) : flatE encT T = (T.map txtB).map encStr := by rw [← flat_txt, txt_map]
def SeatsPost (d : Deal) (st : Int) (w : World) (e : Ending) (w' : World) : Prop := ∃ v S, e = .returned v ∧ RowIn encT w' v S ∧ S.Perm (codesOf d.seats st) ∧ RowKit.Below w.heap.size w w'
theorem codesOf_snoc (l : List Seat) (x : Seat) (st : Int) : codesOf (l ++ [x]) st = codesOf l st ++ if x.student = st then [x.code] else [] := by
  unfold codesOf
  rw [List.filter_append, List.map_append]
  congr 1
  by_cases h : x.student = st <;> simp [h]
theorem codesOf_len (l : List Seat) (st : Int) : (codesOf l st).length ≤ l.length := by
  unfold codesOf; rw [List.length_map]; exact List.length_filter_le _ _
set_option maxHeartbeats 4000000 in
set_option maxRecDepth 100000 in
theorem seats_any (dv : Value) (d : Deal) (st : Int) (w : World) (hd : DealIn w dv d) :
    Calls Tryz.prog 15 #[dv, .int .i64 st] w (SeatsPost d st w) := by
  obtain ⟨⟨p, cp, q, cq, rfl, hs, _⟩, hls, _⟩ := hd
  have hb0 := below_alloc1 w (.cells #[.slice p d.seats.length cp, .slice q d.waits.length cq] 45)
  have hx0 := heap_alloc_new w (.cells #[.slice p d.seats.length cp, .slice q d.waits.length cq] 45)
  have hl0 : w.heap.size < (w.alloc (.cells #[.slice p d.seats.length cp, .slice q d.waits.length cq] 45)).heap.size := by simp
  have HS := Lib.hid hs
  clear hs
  go_enter Tryz.func15, Tryz.ntmps15
  go_wp2_with fail
  generalize w.alloc _ = W at hb0 hx0 hl0 ⊢
  have hc0 : ∀ j, W.cell? ⟨w.heap.size, j, none⟩ = (#[.slice p d.seats.length cp, .slice q d.waits.length cq] : Array Value)[j]? := fun j => Lib.cell_of_heap hx0 j
  go_loopw [5, 11] (fun v i wr => ∃ (k : Nat) (T : List ByteArray) (pt : Option Addr) (ct : Nat), k ≤ d.seats.length ∧ v = .slice pt T.length ct ∧ i = .int .i64 k ∧ Hid (T = codesOf (d.seats.take k) st) ∧ wr.ownsRow W.heap.size 9 1 (.slice pt T.length ct) T.length (flatE encT T) ∧ RowKit.Below W.heap.size W wr) (fun _ i _ => d.seats.length - (RowKit.intOf i).toNat)
  case atStart => exact ⟨0, [], none, 0, Nat.zero_le _, rfl, rfl, Lib.hid rfl, World.ownsRow_nil _ _ _ _, Below.refl _ _⟩
  case round =>
    obtain ⟨k, T, pt, ct, hk, rfl, rfl, HI, hown, hbr⟩ := hrel
    have HO := Lib.hid hown
    have hTl : T.length ≤ k := by
      have := codesOf_len (d.seats.take k) st
      rw [← HI.out] at this
      have h2 : (d.seats.take k).length ≤ k := by simp; omega
      omega
    clear hown
    by_cases hlt : k < d.seats.length
    · obtain ⟨g, of, c', hv, _, hgl, hx⟩ := HS.out.at_ (k := 2) (fun _ => rfl) (by omega)
      have e1 := (Value.slice.inj hv).1
      subst e1
      have hz := List.getElem?_eq_getElem hlt
      have hat := hx k _ hz
      have HTK := Lib.hid (take_one hz)
      generalize d.seats[k] = x at hz hat HTK
      obtain ⟨xs, xc⟩ := x
      have hbw : RowKit.Below w.heap.size w wr := below_next hb0 hbr
      have h0 : wr.cell? ⟨g, of + k * 2, none⟩ = some (.int .i64 xs) := by rw [hbw.cell (p := ⟨g, of + k * 2, none⟩) hgl]; exact hat 0 _ rfl
      have h1 : wr.cell? ⟨g, of + k * 2 + 1, none⟩ = some (.string xc) := by rw [hbw.cell (p := ⟨g, of + k * 2 + 1, none⟩) hgl]; exact hat 1 _ rfl
      have hb4 : RowKit.Below W.heap.size W (wr.alloc (.cells #[.int .i64 xs, .string xc] 54)) := hbr.alloc hbr.size _
      have hbx : ∀ j, (wr.alloc (.cells #[.int .i64 xs, .string xc] 54)).cell? ⟨wr.heap.size, j, none⟩ = (#[.int .i64 xs, .string xc] : Array Value)[j]? := fun j => Lib.cell_of_heap (heap_alloc_new wr _) j
      have hsl : wr.heap.size < (wr.alloc (.cells #[.int .i64 xs, .string xc] 54)).heap.size := by simp
      have hown4 : (wr.alloc (.cells #[.int .i64 xs, .string xc] 54)).ownsRow W.heap.size 9 1 (.slice pt T.length ct) T.length (flatE encT T) := HO.out.alloc _
      clear hv hx hz hat
      by_cases hst : xs = st
      · subst hst
        have HN := Lib.hid (show T ++ [xc] = codesOf (d.seats.take (k + 1)) xs by rw [HTK.out, codesOf_snoc, if_pos rfl, ← HI.out])
        have hown9 := hown4.alloc (.cells #[.string xc] 9)
        have hlit := rowIn_lit (enc := encT) (e := 9) (wr.alloc (.cells #[.int .i64 xs, .string xc] 54)) [xc] #[.string xc] (wr.heap.size + 1) (by simp) rfl 1 rfl
        have hb9 := hb4.alloc hb4.size (.cells #[.string xc] 9)
        go_wp2_with (at_builtin; refine wpList_append_row strT rfl (.tmp 19) (.tmp 22) rfl W.heap.size _ _ T [xc] rfl rfl hown9 hlit (by simp; omega) hb9.size ?_; intro v9 w9 hA9; obtain ⟨p9, c9, rfl⟩ := own_form hA9.own)
        have hbF := hb9.grown hA9.grown hb9.size (fun q hq => (own_lo hown9 hq).1)
        have hoF := hA9.own
        simp only [List.length_append, List.length_singleton] at hoF
        go_roundw
        case rel => exact ⟨k + 1, T ++ [xc], p9, c9, by omega, by simp, by go_num, HN, by simpa using hoF, hbF⟩
        case measure => simp [RowKit.intOf]; omega
      · have HN := Lib.hid (show T = codesOf (d.seats.take (k + 1)) st by rw [HTK.out, codesOf_snoc, if_neg hst, ← HI.out, List.append_nil])
        have hst2 : (xs == st) = false := by simpa using hst
        clear hst
        go_wp2_with fail
        go_roundw
        case rel => exact ⟨k + 1, T, pt, ct, by omega, rfl, by go_num, HN, hown4, hb4⟩
        case measure => simp [RowKit.intOf]; omega
    · obtain rfl : k = d.seats.length := by omega
      have HT : Hid (T = codesOf d.seats st) := Lib.hid (by have := HI.out; rwa [List.take_length] at this)
      clear HI
      go_wp2_with fail
      rcases Nat.eq_zero_or_pos T.length with hT0 | hT0
      · have hTe := List.eq_nil_of_length_eq_zero hT0
        subst hTe
        refine (Tryz.slices_Sort_string_none pt ct wr).mono ?_
        rintro _ w1 ⟨rfl, rfl⟩
        have hrow := rowIn_own (k := 1) (fun _ => rfl) (by decide) HO.out
        go_wp2_with fail
        go_ret
        exact ⟨_, [], rfl, hrow, HT.out ▸ List.Perm.refl _, below_next hb0 hbr⟩
      · rcases HO.out.2 with ⟨e, _⟩ | ⟨g, cap, cur, e, hgb, hg, hnc, hm, hcs, ht⟩
        · injection e with _ e; omega
        · injection e with e1 _ e3
          subst e1; subst e3
          have hTl2 : (T.map txtB).length = T.length := by simp
          have hH := holds_of_block (g := g) (e := 9) (ss := T.map txtB) hg (by rw [hTl2, ← flat_enc]; simpa using ht)
          have cS := Tryz.slices_Sort_string g 0 ct (T.map txtB) wr hH (lt_of_heap hg) (by simp; omega)
          rw [hTl2] at cS
          refine cS.mono ?_
          rintro _ w1 ⟨rfl, n, os, rfl⟩
          obtain ⟨ts, hts⟩ : ∃ ts, ((T.map txtB).mergeSort fun x y => decide (x ≤ y)) = ts := ⟨_, rfl⟩
          have hpm : ts.Perm (T.map txtB) := by rw [← hts]; exact List.mergeSort_perm _ _
          rw [hts]
          have hlen : ts.length = T.length := by rw [hpm.length_eq, hTl2]
          have hown2 := ownsRow_sorted (n := n) (os := os) (ss := T.map txtB) (by rw [hlen, hTl2]) hgb hg (by rw [hTl2]; exact hnc) hm (by simpa using hcs)
          have hgr := grownBy_sorted (w := wr) (g := g) (n := n) (os := os) ts.toArray
          have hb2 := hbr.grown hgr hbr.size (fun q hq => by obtain rfl := Option.some.inj hq; exact hgb)
          rw [hTl2] at hown2
          generalize grow (putRow encStr (Sort.ahead wr n) g 0 ts.toArray) os = w2 at hown2 hb2 hgr ⊢
          have hrow : RowIn encT w2 (.slice (some ⟨g, 0, none⟩) T.length ct) (ts.map txtL) := by
            refine rowIn_own (e := 9) (base := W.heap.size) (n := T.length) (k := 1) (fun _ => rfl) (by decide) ?_
            rw [flat_txt]
            exact hown2
          have hprm : (ts.map txtL).Perm (codesOf d.seats st) := by
            have := hpm.map txtL
            rw [txt_map, HT.out] at this
            exact this
          have HR := Lib.hid hrow
          have HP := Lib.hid hprm
          have HB := Lib.hid hb2
          clear hrow hprm hb2 hown2 hgr hH cS hpm hts
          go_wp2_with fail
          go_ret
          exact ⟨_, _, rfl, HR.out, HP.out, below_next hb0 HB.out⟩
end Go.Proofs.YtbihaoadgcckhaaGreat
