/- request.Digest. -/
import Derived.Test.YtanmmooflhomoaaGreatDoorRqSame
import Derived.Test.YtanmmooflhomoaaGreatDoorRqChk
import Derived.Test.YtanmmooflhomoaaGreatDoorCode
import Derived.Test.YtanmmooflhomoaaGreatDoorBuild
import Derived.Test.YtanmmooflhomoaaGreatDoorWire
import Derived.Test.YtanmmooflhomoaaGreatDoorRqNum
import Derived.Test.YtanmmooflhomoaaGreatDoorRqCmp
import Derived.Deep.RegionHeld3
import Derived.Test.YtanmmooflhomoaaGreatDoorRqDof
import Derived.Test.YtanmmooflhomoaaGreatDoorRqAc2
/- request.Encode's closure: it writes integers. -/
namespace Go.Proofs.YtanmmooflhomoaaGreatDoor
open Go Go.Proofs Go.RowKit Go.Sort Go.Lib
attribute [local go_sem] Req.cells

def wInts (l : List Int) : List UInt8 := l.flatMap wInt

theorem wInts_snoc (l : List Int) (n : Int) : wInts (l ++ [n]) = wInts l ++ wInt n := by simp [wInts]

theorem wInts_take (l : List Int) (k : Nat) (h : k < l.length) : wInts (l.take (k + 1)) = wInts (l.take k) ++ wInt (l.getD k 0) := by
  rw [List.take_succ_eq_append_getElem h, wInts_snoc, List.getD_eq_getElem?_getD, List.getElem?_eq_getElem h]; rfl

theorem wInts_len (l : List Int) (h : ∀ n ∈ l, I64 n) : (wInts l).length ≤ 22 * l.length := by
  induction l with
  | nil => simp [wInts]
  | cons a l ih =>
    have h1 := wInt_len a (h a (by simp)).1 (h a (by simp)).2
    have h2 := ih (fun n hn => h n (by simp [hn]))
    simp only [wInts, List.flatMap_cons, List.length_append, List.length_cons] at *
    omega

theorem getD_mem {l : List Int} {k : Nat} (h : k < l.length) : l.getD k 0 ∈ l := by
  rw [List.getD_eq_getElem?_getD, List.getElem?_eq_getElem h]; simp


/-- Block b is a row of ints. -/
def IntRow (w : World) (b : Nat) (l : List Int) : Prop := w.heap[b]? = some (.cells (l.map (Value.int .i64)).toArray 3 (0, 0))
theorem IntRow.cell {w : World} {b : Nat} {l : List Int} (h : IntRow w b l) {k : Nat} (hk : k < l.length) : w.cell? ⟨b, k, none⟩ = some (.int .i64 (l.getD k 0)) := by
  unfold IntRow at h
  rw [Lib.cell_of_heap h]
  simp [List.getD_eq_getElem?_getD, List.getElem?_eq_getElem hk]
theorem IntRow.kept {w w' : World} {b c : Nat} {l : List Int} (h : IntRow w b l) (hk : Kept c w w') (hb : b ≠ c) : IntRow w' b l := kept_cell hk h hb (by decide)
theorem lt_of_heap {w : World} {b : Nat} {o : Obj} (h : w.heap[b]? = some o) : b < w.heap.size := by
  rcases Nat.lt_or_ge b w.heap.size with h' | h'
  · exact h'
  · rw [Array.getElem?_eq_none h'] at h; cases h
theorem IntRow.below {w w' : World} {b : Nat} {l : List Int} (h : IntRow w b l) (hk : Below w.heap.size w w') : IntRow w' b l := by
  unfold IntRow at *
  rw [hk.block b (lt_of_heap h)]; exact h

theorem IntRow.new (w : World) (l : List Int) : IntRow (w.alloc (.cells (l.map (Value.int .i64)).toArray 3)) w.heap.size l := heap_alloc_new w _

theorem kept_trans {b : Nat} {w w' w'' : World} (h : Kept b w w') (h' : Kept b w' w'') : Kept b w w'' := fun k o hk h1 h2 => h' k o (h k o hk h1 h2) h1 h2
set_option maxHeartbeats 2000000 in
set_option maxRecDepth 100000 in
theorem encInts_any (B b rb c : Nat) (ns : List Int) (l : List UInt8) (w : World) (hB : Bld B b l w) (hr : IntRow w rb ns) (hrb : rb ≠ b) (hns : ∀ n ∈ ns, I64 n) (hl : ns.length ≤ 100) (hlen : l.length ≤ 900000000) (ht : Tabs w) (hg : 1 < B) :
    Calls Tryz.prog 30 #[.slice (some ⟨rb, 0, none⟩) ns.length c, .pointer (some ⟨b, 0, none⟩)] w fun e w' => e = .returned (.tuple #[]) ∧ Bld B b (l ++ wInts ns) w' ∧ RowKit.Below B w w' ∧ Kept b w w' := by
  have HN := Lib.hid hns
  have hBw := hB.2
  have HB0 := Lib.hid hB
  clear hns hB
  go_enter Tryz.func30, Tryz.ntmps30
  go_wp2_with fail
  go_loopw [7] (fun i wr => ∃ k : Nat, k ≤ ns.length ∧ i = .int .i64 k ∧ Hid (Bld B b (l ++ wInts (ns.take k)) wr) ∧ RowKit.Below B w wr ∧ IntRow wr rb ns ∧ Hid (Kept b w wr)) (fun i _ => ns.length - (RowKit.intOf i).toNat)
  case atStart => exact ⟨0, Nat.zero_le _, rfl, Lib.hid (by simpa [wInts] using HB0.out), Below.refl _ _, hr, Lib.hid (fun k o hk _ _ => hk)⟩
  case round =>
    obtain ⟨k, hk, rfl, HBl, hbe, hrow, HK⟩ := hrel
    by_cases hlt : k < ns.length
    · have hc := hrow.cell (k := k) hlt
      have hi := HN.out _ (getD_mem (l := ns) (k := k) hlt)
      have hlen1 := wInts_len (ns.take k) (fun n hn => HN.out n (List.mem_of_mem_take hn))
      have hlen2 : (ns.take k).length ≤ 100 := by simp; omega
      have H := Lib.hid (wInts_take ns k hlt)
      generalize ns.getD k 0 = n at hc hi H
      have hwl := wInt_len n hi.1 hi.2
      have cw := wireInt_any n wr hi.1 hi.2 (var?_below hbe gTab hg ht)
      have HL : Hid ((l ++ wInts (ns.take k)).length + (wInt n).length ≤ 1000000000) := Lib.hid (by rw [List.length_append]; omega)
      clear hlen1 hlen2 hwl
      go_wp2_with fail
      refine cw.mono ?_
      rintro x w1 ⟨rfl, hb1⟩
      have cb := bld_write B b _ (wInt n) _ (HBl.out.below hb1) HL.out
      clear cw
      go_wp2_with fail
      refine cb.mono ?_
      rintro x w2 ⟨rfl, hbl2, hb2, hk2⟩
      have HB2 : Hid (Bld B b (l ++ wInts (ns.take (k + 1))) w2) := Lib.hid (by rw [H.out, ← List.append_assoc]; exact hbl2)
      have hrow2 := (hrow.below hb1).kept hk2 hrb
      have hbe2 : RowKit.Below B w w2 := (hbe.trans (hb1.mono (Nat.le_trans hBw hbe.size))).trans hb2
      have HK2 := Lib.hid (kept_trans HK.out (kept_trans (kept_below hb1) hk2))
      clear cb hbl2 hb1 hb2 hk2
      go_wp2_with fail
      go_roundw
      case rel => exact ⟨k + 1, by omega, by go_num, HB2, hbe2, hrow2, HK2⟩
      case measure => simp [RowKit.intOf]; omega
    · obtain rfl : k = ns.length := by omega
      go_wp2_with fail
      exact ⟨rfl, _, results_none rfl _ _ _, rfl, by have := HBl.out; rwa [List.take_length] at this, hbe, HK.out⟩
end Go.Proofs.YtanmmooflhomoaaGreatDoor
/- request.Encode, walked. -/
namespace Go.Proofs.YtanmmooflhomoaaGreatDoor
open Go Go.Proofs Go.RowKit Go.Sort Go.Lib
attribute [local go_sem] Req.cells

def Req.ints1 (r : Req) : List Int := [r.server, r.seq, truthN r.cancel, r.student, r.term]
def Req.ints2 (r : Req) : List Int := [r.priority, r.day]
/-- A request, as it is written. -/
def encR1 (r : Req) : List UInt8 := wInts r.ints1 ++ (wText r.code ++ wText r.give) ++ wInts r.ints2
def encL (L : List Req) : List UInt8 := wInt L.length ++ L.flatMap encR1
theorem req_ints1 {r : Req} (h : r.Ok) : ∀ n ∈ r.ints1, I64 n := by
  have ht : I64 (truthN r.cancel) := by unfold truthN I64; split <;> omega
  simp only [Req.ints1, List.mem_cons, List.not_mem_nil, or_false]
  rintro n (rfl | rfl | rfl | rfl | rfl)
  · exact h.server
  · exact h.seq
  · exact ht
  · exact h.student
  · exact h.term
theorem req_ints2 {r : Req} (h : r.Ok) : ∀ n ∈ r.ints2, I64 n := by
  simp only [Req.ints2, List.mem_cons, List.not_mem_nil, or_false]
  rintro n (rfl | rfl)
  · exact h.priority
  · exact h.day
theorem encR1_len (r : Req) (h : r.Ok) (hz : r.code.size ≤ 100000 ∧ r.give.size ≤ 100000) : (encR1 r).length ≤ 200300 := by
  have h1 := wInts_len r.ints1 (req_ints1 h)
  have h2 := wInts_len r.ints2 (req_ints2 h)
  have h3 := wText_len r.code (by omega)
  have h4 := wText_len r.give (by omega)
  have e1 : r.ints1.length = 5 := rfl
  have e2 : r.ints2.length = 2 := rfl
  simp only [encR1, List.length_append]
  omega
theorem encs_len (L : List Req) (h : ∀ r ∈ L, r.Ok) (hz : ∀ r ∈ L, r.code.size ≤ 100000 ∧ r.give.size ≤ 100000) : (L.flatMap encR1).length ≤ 200300 * L.length := by
  induction L with
  | nil => simp
  | cons r L ih =>
    have h1 := encR1_len r (h r (by simp)) (hz r (by simp))
    have h2 := ih (fun x hx => h x (by simp [hx])) (fun x hx => hz x (by simp [hx]))
    simp only [List.flatMap_cons, List.length_append, List.length_cons]
    omega
set_option maxHeartbeats 4000000 in
set_option maxRecDepth 100000 in
theorem encode_any (v : Value) (L : List Req) (w : World) (hv : ReqsIn w v L) (hl : L.length ≤ 1000) (hok : ∀ r ∈ L, r.Ok) (hsz : ∀ r ∈ L, r.code.size ≤ 100000 ∧ r.give.size ≤ 100000) (ht : Tabs w) :
    Calls Tryz.prog 15 #[v] w fun e w' => e = .returned (.string ⟨(encL L).toArray⟩) ∧ RowKit.Below w.heap.size w w' := by
  obtain ⟨base, c, rfl, hlc⟩ := hv.form
  have HV := Lib.hid hv
  have HO := Lib.hid hok
  have HZ := Lib.hid hsz
  have hg := ht.lt
  clear hv hok hsz
  have hb1 : RowKit.Below w.heap.size w ((w.alloc (.cells #[.pointer none, .slice none 0 0] 61)).alloc (.cells #[.int .i64 L.length] 3)) := ((Below.refl _ w).alloc (Nat.le_refl _) _).alloc (by simp) _
  have hB0 : Bld w.heap.size w.heap.size [] ((w.alloc (.cells #[.pointer none, .slice none 0 0] 61)).alloc (.cells #[.int .i64 L.length] 3)) := (Bld.new w).alloc _
  have hr0 : IntRow ((w.alloc (.cells #[.pointer none, .slice none 0 0] 61)).alloc (.cells #[.int .i64 L.length] 3)) (w.heap.size + 1) [(L.length : Int)] := by
    have := IntRow.new (w.alloc (.cells #[.pointer none, .slice none 0 0] 61)) [(L.length : Int)]
    rwa [World.size_alloc] at this
  have c0 := encInts_any w.heap.size w.heap.size (w.heap.size + 1) 1 [(L.length : Int)] [] _ hB0 hr0 (by omega) (by simp [I64]; omega) (by simp) (by simp) (ht.below hb1) hg
  simp only [List.length_cons, List.length_nil, Nat.zero_add, List.nil_append] at c0
  go_enter Tryz.func15, Tryz.ntmps15
  go_wp2_with fail
  refine c0.mono ?_
  rintro _ w1 ⟨rfl, hB1, hb2, hk2⟩
  have hbw1 : RowKit.Below w.heap.size w w1 := hb1.trans hb2
  have HB1 := Lib.hid hB1
  clear c0 hB0 hr0 hb1 hb2 hk2 hB1
  go_wp2_with fail
  go_loopw [15] (fun i wr => ∃ k : Nat, k ≤ L.length ∧ i = .int .i64 k ∧ Hid (Bld w.heap.size w.heap.size (wInt L.length ++ (L.take k).flatMap encR1) wr) ∧ RowKit.Below w.heap.size w wr) (fun i _ => L.length - (RowKit.intOf i).toNat)
  case atStart => exact ⟨0, Nat.zero_le _, rfl, Lib.hid (by simpa [wInts] using HB1.out), hbw1⟩
  case round =>
    obtain ⟨k, hk, rfl, HB, hB⟩ := hrel
    by_cases hlt : k < L.length
    · obtain ⟨g, o, c', hv', _, hgl, hat⟩ := HV.out.at_ (by omega)
      have hx := List.getElem?_eq_getElem hlt
      have hxo := HO.out _ (List.getElem_mem hlt)
      have hxz := HZ.out _ (List.getElem_mem hlt)
      generalize L[k] = x at hx hxo hxz
      have hatk := (hat k x hx).below hB hgl
      have e1 := (Value.slice.inj hv').1
      subst e1
      have HX := Lib.hid hx
      have HOX := Lib.hid hxo
      have hBs := hB.size
      have hbl := HB.out.lt
      generalize hl0 : wInt L.length ++ (L.take k).flatMap encR1 = l0 at HB
      have HL0 := Lib.hid hl0
      have HLen : Hid (l0.length ≤ 800000000) := Lib.hid (by
        have h1 := encs_len (L.take k) (fun r hr => HO.out r (List.mem_of_mem_take hr)) (fun r hr => HZ.out r (List.mem_of_mem_take hr))
        have h2 : (L.take k).length ≤ 1000 := by simp; omega
        have h3 := wInt_len (L.length : Int) (by omega) (by omega)
        rw [← hl0, List.length_append]
        omega)
      have hI1 := req_ints1 hxo
      have hbox0 : ReqBox (wr.alloc (.cells x.cells 46)).drew wr.heap.size x := ReqBox.new wr x
      have hBu : RowKit.Below w.heap.size w (wr.alloc (.cells x.cells 46)).drew := (hB.alloc hBs _).drew
      have hBld : Bld w.heap.size w.heap.size l0 (wr.alloc (.cells x.cells 46)).drew := (HB.out.alloc _).below (Below.refl _ _).drew
      have hrow : IntRow ((wr.alloc (.cells x.cells 46)).alloc (.cells #[.int .i64 x.server, .int .i64 x.seq, .int .i64 (truthN x.cancel), .int .i64 x.student, .int .i64 x.term] 3)).drew (wr.heap.size + 1) x.ints1 := by
        have := IntRow.new (wr.alloc (.cells x.cells 46)).drew x.ints1
        rw [show (wr.alloc (.cells x.cells 46)).drew.heap.size = wr.heap.size + 1 from by simp [World.drew]] at this
        exact this
      have hBv : RowKit.Below w.heap.size w ((wr.alloc (.cells x.cells 46)).alloc (.cells #[.int .i64 x.server, .int .i64 x.seq, .int .i64 (truthN x.cancel), .int .i64 x.student, .int .i64 x.term] 3)).drew := ((hB.alloc hBs _).alloc (hB.alloc hBs _).size _).drew
      have hbox1 : ReqBox ((wr.alloc (.cells x.cells 46)).alloc (.cells #[.int .i64 x.server, .int .i64 x.seq, .int .i64 (truthN x.cancel), .int .i64 x.student, .int .i64 x.term] 3)).drew wr.heap.size x := (show ReqBox (wr.alloc (.cells x.cells 46)) wr.heap.size x from ReqBox.new wr x).below ((Below.refl _ _).alloc (Nat.le_refl _) _).drew
      have c1 := encInts_any w.heap.size w.heap.size (wr.heap.size + 1) 5 x.ints1 l0 ((wr.alloc (.cells x.cells 46)).alloc (.cells #[.int .i64 x.server, .int .i64 x.seq, .int .i64 (truthN x.cancel), .int .i64 x.student, .int .i64 x.term] 3)).drew (((HB.out.alloc _).alloc _).below (Below.refl _ _).drew) hrow (by omega) hI1 (by show 5 ≤ 100; omega) (by have := HLen.out; omega) (ht.below hBv) hg
      have hl5 : x.ints1.length = 5 := rfl
      rw [hl5] at c1
      simp only [Req.cells] at c1
      clear hx hat hv' hxo hI1 hl0 hrow
      have hS0 : ∀ j, (wr.alloc (.cells x.cells 46)).drew.cell? ⟨wr.heap.size, j, none⟩ = x.cells[j]? := hbox0.cell
      have hS1 : ∀ j, ((wr.alloc (.cells x.cells 46)).alloc (.cells #[.int .i64 x.server, .int .i64 x.seq, .int .i64 (truthN x.cancel), .int .i64 x.student, .int .i64 x.term] 3)).drew.cell? ⟨wr.heap.size, j, none⟩ = x.cells[j]? := hbox1.cell
      go_wp2_with (refine wpList_load_mid rfl 46 (.tmp 17) rfl _ _ rfl x.cells.toList _ hatk Tryz.underlying46 rfl (by kernel_rfl) ?_)
      go_region_held3 (fun w' => ∀ j, w'.cell? ⟨wr.heap.size, j, none⟩ = x.cells[j]?) (first | exact hS0 | exact hS1 | assumption)
        (first
          | ((with_reducible refine (truth_any _ _).mono ?_); rintro _ w2 ⟨rfl, rfl⟩)
          | ((with_reducible refine c1.mono ?_); rintro _ w2 ⟨rfl, hB2, hb2, hk2⟩; have hbox2 : ReqBox w2 wr.heap.size x := (kept_cell hk2 hbox1 (by omega) (by decide)); have hS2 := ReqBox.cell hbox2; have hBx : RowKit.Below w.heap.size w w2 := hBv.trans hb2))
      have HBL2 := Lib.hid hB2
      clear hS0 hS1 c1 hBv hBu hBld hbox0 hbox1 hb2 hk2 hB2 hatk
      go_wp2_with fail
      have hw1 := wText_len x.code (by omega)
      have hw2 := wText_len x.give (by omega)
      have hl1 : (wInts x.ints1).length ≤ 22 * 5 := wInts_len x.ints1 (req_ints1 HOX.out)
      have hlen := HLen.out
      have hcat : ¬ 9223372036854775807 < (wText x.code).length + (wText x.give).length := by omega
      have HL2 : Hid ((l0 ++ wInts x.ints1).length + (wText x.code ++ wText x.give).length ≤ 1000000000) := Lib.hid (by simp only [List.length_append]; omega)
      have hT0 : Tabs w2.drew := ht.below hBx.drew
      have t1 := wireText_any x.code w2.drew (by omega) hT0
      have hS0 : ∀ j, w2.drew.cell? ⟨wr.heap.size, j, none⟩ = x.cells[j]? := hbox2.cell
      clear hlen hw1 hw2 hl1
      go_region_held3 (fun w' => ∀ j, w'.cell? ⟨wr.heap.size, j, none⟩ = x.cells[j]?) (first | exact hS0 | assumption)
        (first
          | ((with_reducible refine t1.mono ?_); rintro _ w3 ⟨rfl, hb3⟩; have hbox3 : ReqBox w3 wr.heap.size x := ReqBox.below (w := w2.drew) hbox2 hb3; have hS3 := hbox3.cell; have hB3 : RowKit.Below w.heap.size w w3 := hBx.drew.trans (hb3.mono hBx.drew.size); have t2 := wireText_any x.give w3 (by omega) (ht.below hB3); have HBL3 : Hid (Bld w.heap.size w.heap.size (l0 ++ wInts x.ints1) w3) := Lib.hid (Bld.below (w := w2.drew) (HBL2.out.below (Below.refl _ _).drew) hb3))
          | ((with_reducible refine t2.mono ?_); rintro _ w4 ⟨rfl, hb4⟩; have hbox4 : ReqBox w4 wr.heap.size x := hbox3.below hb4; have hS4 := hbox4.cell; have hB4 : RowKit.Below w.heap.size w w4 := hB3.trans (hb4.mono hB3.size); have cb := bld_write w.heap.size w.heap.size _ (wText x.code ++ wText x.give) w4 (HBL3.out.below hb4) HL2.out)
          | ((refine cb.mono ?_); rintro _ w5 ⟨rfl, hB5, hb5, hk5⟩; have hbox5 : ReqBox w5 wr.heap.size x := (kept_cell hk5 hbox4 (by omega) (by decide)); have hS5 := hbox5.cell; have hB6 : RowKit.Below w.heap.size w w5 := hB4.trans hb5))
      have hrow2 : IntRow (w5.alloc (.cells #[.int .i64 x.priority, .int .i64 x.day] 3)) w5.heap.size x.ints2 := IntRow.new w5 x.ints2
      have hbl5 := hB5.lt
      have hB7 : RowKit.Below w.heap.size w (w5.alloc (.cells #[.int .i64 x.priority, .int .i64 x.day] 3)) := hB6.alloc hB6.size _
      have c3 := encInts_any w.heap.size w.heap.size w5.heap.size 2 x.ints2 _ _ (hB5.alloc _) hrow2 (by omega) (req_ints2 HOX.out) (by show 2 ≤ 100; omega) (by have := HL2.out; have := HLen.out; have h1 := wInts_len x.ints1 (req_ints1 HOX.out); have h2 := wText_len x.code (by omega); have h3 := wText_len x.give (by omega); have e1 : x.ints1.length = 5 := rfl; simp only [List.length_append]; omega) (ht.below hB7) hg
      have hl2 : x.ints2.length = 2 := rfl
      rw [hl2] at c3
      have HN : Hid (wInt L.length ++ (L.take (k + 1)).flatMap encR1 = l0 ++ wInts x.ints1 ++ (wText x.code ++ wText x.give) ++ wInts x.ints2) := Lib.hid (by rw [take_snoc HX.out, List.flatMap_append, ← HL0.out]; simp [encR1, List.append_assoc])
      have c7 : w5.cell? ⟨wr.heap.size, 7, none⟩ = some (.int .i64 x.priority) := hbox5.cell 7
      have c8 : w5.cell? ⟨wr.heap.size, 8, none⟩ = some (.int .i64 x.day) := hbox5.cell 8
      have hbw5 := hbox5.lt
      clear hrow2 hB5 hS5 hS0 hS2 hS3 hS4 hbox2 hbox3 hbox4 hbox5 hb3 hb4 hb5 hk5 hcat
      go_wp2_with fail
      refine c3.mono ?_
      rintro _ w6 ⟨rfl, hB8, hb8, _⟩
      have HB8 : Hid (Bld w.heap.size w.heap.size (wInt L.length ++ (L.take (k + 1)).flatMap encR1) w6) := Lib.hid (by rw [HN.out]; exact hB8)
      have hB9 : RowKit.Below w.heap.size w w6 := hB7.trans hb8
      clear c3 hB8 hb8
      go_wp2_with fail
      go_roundw
      case rel => exact ⟨k + 1, by omega, by go_num, HB8, hB9⟩
      case measure => simp [RowKit.intOf]; omega
    · obtain rfl : k = L.length := by omega
      have cs := bld_string w.heap.size w.heap.size _ wr HB.out
      rw [List.take_length] at cs
      go_wp2_with fail
      refine cs.mono ?_
      rintro _ w5 ⟨rfl, _, hb5, _⟩
      go_wp2_with fail
      go_ret
      exact ⟨rfl, hB.trans hb5⟩
end Go.Proofs.YtanmmooflhomoaaGreatDoor
namespace Go.Proofs.YtanmmooflhomoaaGreatDoor
open Go Go.Proofs Go.RowKit Go.Sort Go.Lib

set_option maxHeartbeats 2000000 in
set_option maxRecDepth 100000 in
theorem digest_any (v : Value) (L : List Req) (w : World) (hv : ReqsIn w v L) (hl : L.length ≤ 400) (hwf : ∀ r ∈ L, r.wf) (hok : ∀ r ∈ L, r.Ok) (ht : Tabs w) :
    Calls Tryz.prog 13 #[v] w fun e w' => ∃ M, IsSet M L ∧ e = .returned (.string ⟨(dg (encL M)).toArray⟩) ∧ RowKit.Below w.heap.size w w' := by
  have cj := join_any v (.slice none 0 0) L [] w hv (.inl ⟨rfl, rfl⟩) (by simp; omega) (by simpa using hwf)
  rw [List.append_nil] at cj
  obtain ⟨vb, vc, rfl, _⟩ := hv.form
  have HO := Lib.hid hok
  clear hv hok hwf
  go_enter Tryz.func13, Tryz.ntmps13
  go_wp2_with fail
  refine cj.mono ?_
  rintro _ w1 ⟨v1, M, rfl, hM, hrow, hb1⟩
  have hMl := isSet_len hM
  have HM := Lib.hid hM
  have hMo : ∀ r ∈ M, r.Ok := fun r hr => HO.out r ((hM.2 r).1 hr)
  have ce := encode_any v1 M w1 (reqsIn_own hrow) (by omega) hMo (fun r hr => ⟨(hMo r hr).code, (hMo r hr).give⟩) (ht.below hb1)
  have HLen : Hid ((encL M).length ≤ 100000000) := Lib.hid (by
    have h1 := encs_len M hMo (fun r hr => ⟨(hMo r hr).code, (hMo r hr).give⟩)
    have h3 := wInt_len (M.length : Int) (by omega) (by omega)
    simp only [encL, List.length_append]
    omega)
  clear hM hMo cj hrow
  obtain ⟨B, hB⟩ : ∃ B, encL M = B := ⟨_, rfl⟩
  rw [hB] at ce HLen
  have HB := Lib.hid hB
  clear hB
  have cd := fun u => digestOf_any ⟨B.toArray⟩ (by have := HLen.out; simpa [ByteArray.size] using this) u
  go_wp2_with fail
  refine ce.mono ?_
  rintro _ w2 ⟨rfl, hb2⟩
  go_wp2_with fail
  refine (cd w2).mono ?_
  rintro _ w3 ⟨rfl, hb3⟩
  have hbb := (hb1.trans (hb2.mono hb1.size))
  have hbc := hbb.trans (hb3.mono hbb.size)
  go_wp2_with fail
  go_ret
  first
    | exact ⟨M, HM.out, by rw [HB.out]; simp, hbc⟩
    | exact ⟨M, HM.out, by rw [HB.out], hbc⟩
end Go.Proofs.YtanmmooflhomoaaGreatDoor
