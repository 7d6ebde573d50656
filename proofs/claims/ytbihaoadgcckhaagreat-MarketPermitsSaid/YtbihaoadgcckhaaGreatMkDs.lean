/- quadriviumlaw28.deals: an example of the chapter. -/
import Derived.Test.YtbihaoadgcckhaaGreatMkMt
namespace Go.Proofs.YtbihaoadgcckhaaGreat
open Go Go.Proofs Go.RowKit Go.Maps Go.Sort Go.Lib
attribute [local go_sem] Seat.cells Req.cells

structure Asked where
  student : Int
  code : ByteArray
  give : ByteArray
  priority : Int
def Asked.cells (a : Asked) : List Value := [.int .i64 a.student, .string a.code, .string a.give, .int .i64 a.priority]
attribute [local go_sem] Asked.cells
def askR (k : Nat) (a : Asked) : Req := ⟨1, (k : Int) + 1, false, a.student, 4, a.code, a.give, a.priority, 400⟩
def asksR (l : List Asked) : List Req := l.mapIdx askR
theorem asksR_snoc (l : List Asked) (a : Asked) : asksR (l ++ [a]) = asksR l ++ [askR l.length a] := by
  unfold asksR; rw [List.mapIdx_append]; simp
/-- The catalog of the examples; x and y: where the lists of times lie. -/
def cat0 (x y : Nat) : List Off := [⟨⟨#[65, 49]⟩, 5, 1, some ⟨x, 0, none⟩, 1, none, 0, [1], []⟩, ⟨⟨#[66, 49]⟩, 6, 2, some ⟨y, 0, none⟩, 1, none, 0, [1], []⟩, ⟨⟨#[67, 49]⟩, 10, 9, none, 0, none, 0, [], []⟩]
theorem seat_any (s : Int) (c : ByteArray) (w : World) : Calls Tryz.prog 18 #[.int .i64 s, .string c] w fun e w' => e = .returned (.agg #[.int .i64 s, .string c]) ∧ RowKit.Below w.heap.size w w' := by
  go_enter Tryz.func18, Tryz.ntmps18
  go_wp2_with fail
  exact bodyPost_ret (v := .agg #[.int .i64 s, .string c]) (results_cell_row (P := Tryz.prog) Tryz.results18 _ _ w.heap.size 54 #[.int .i64 s, .string c] (0, 0) _ rfl (heap_alloc_new w _) Tryz.underlying54 rfl (by kernel_rfl)) rfl ⟨rfl, below_alloc1 _ _⟩
theorem cat0_in (w : World) (h : Nat) (hh : w.heap.size = h) (w3 : World) (h3 : w3 = ((w.alloc (.cells #[.int .i64 1] 3)).alloc (.cells #[.int .i64 1] 3)).alloc (.cells #[.string ⟨#[65, 49]⟩, .int .i64 5, .int .i64 1, .slice (some ⟨h, 0, none⟩) 1 1, .slice none 0 0, .string ⟨#[66, 49]⟩, .int .i64 6, .int .i64 2, .slice (some ⟨h + 1, 0, none⟩) 1 1, .slice none 0 0, .string ⟨#[67, 49]⟩, .int .i64 10, .int .i64 9, .slice none 0 0, .slice none 0 0] 52)) :
    RowIn Off.cells w3 (.slice (some ⟨h + 1 + 1, 0, none⟩) 3 3) (cat0 h (h + 1)) ∧ (∀ o ∈ cat0 h (h + 1), OffOk w3 o ∧ o.few) ∧ RowKit.Below w.heap.size w w3 := by
  have r1 := rowIn_lit (enc := encI) (e := 3) w [1] #[.int .i64 1] h hh rfl 1 rfl
  have r2 := rowIn_lit (enc := encI) (e := 3) (w.alloc (.cells #[.int .i64 1] 3)) [1] #[.int .i64 1] (h + 1) (by simp [hh]) rfl 1 rfl
  have b1 := below_alloc1 (w.alloc (.cells #[.int .i64 1] 3)) (.cells #[.int .i64 1] 3)
  have b2 := below_alloc1 ((w.alloc (.cells #[.int .i64 1] 3)).alloc (.cells #[.int .i64 1] 3)) (.cells #[.string ⟨#[65, 49]⟩, .int .i64 5, .int .i64 1, .slice (some ⟨h, 0, none⟩) 1 1, .slice none 0 0, .string ⟨#[66, 49]⟩, .int .i64 6, .int .i64 2, .slice (some ⟨h + 1, 0, none⟩) 1 1, .slice none 0 0, .string ⟨#[67, 49]⟩, .int .i64 10, .int .i64 9, .slice none 0 0, .slice none 0 0] 52)
  have r3 := rowIn_lit (enc := Off.cells) (e := 52) ((w.alloc (.cells #[.int .i64 1] 3)).alloc (.cells #[.int .i64 1] 3)) (cat0 h (h + 1)) #[.string ⟨#[65, 49]⟩, .int .i64 5, .int .i64 1, .slice (some ⟨h, 0, none⟩) 1 1, .slice none 0 0, .string ⟨#[66, 49]⟩, .int .i64 6, .int .i64 2, .slice (some ⟨h + 1, 0, none⟩) 1 1, .slice none 0 0, .string ⟨#[67, 49]⟩, .int .i64 10, .int .i64 9, .slice none 0 0, .slice none 0 0] (h + 1 + 1) (by simp [hh]) rfl 3 rfl
  subst h3
  refine ⟨r3, fun o ho => ?_, ((below_alloc1 w _).alloc (by simp) _).alloc (by simp <;> omega) _⟩
  simp only [cat0, List.mem_cons, List.not_mem_nil, or_false] at ho
  rcases ho with rfl | rfl | rfl
  · exact ⟨⟨(r1.below b1).below b2, RowIn.nil _ _⟩, by show 1 ≤ 1000000000000; omega⟩
  · exact ⟨⟨r2.below b2, RowIn.nil _ _⟩, by show 1 ≤ 1000000000000; omega⟩
  · exact ⟨⟨RowIn.nil _ _, RowIn.nil _ _⟩, by show 0 ≤ 1000000000000; omega⟩
theorem actR_len_le {M R : List Req} (h : IsSet M R) : (actR M).length ≤ R.length := Nat.le_trans (keepR_len _ _) (isSet_len h)
set_option maxHeartbeats 4000000 in
set_option maxRecDepth 100000 in
theorem deals_true (lv sv wv : Value) (l : List Asked) (S W : List Seat) (O : List Req) (w : World) (hl : RowIn Asked.cells w lv l) (hs : RowIn Seat.cells w sv S) (hw : RowIn Seat.cells w wv W) (ll : l.length ≤ 10) (lS : S.length ≤ 10) (lW : W.length ≤ 10)
    (hf : ∀ r ∈ asksR l, r.fits) (hO : ∀ O', ActOrd (asksR l) O' → O' = O) (hd : ∀ x y, dealP (cat0 x y) metAll 15 O = ⟨S, W⟩) :
    Calls Tryz.prog 21 #[lv, sv, wv] w fun e w' => e = .returned (.bool true) ∧ RowKit.Below w.heap.size w w' := by
  obtain ⟨p1, c1, rfl, _⟩ := hl.form
  obtain ⟨p2, c2, rfl, _⟩ := hs.form
  obtain ⟨p3, c3, rfl, _⟩ := hw.form
  have HL := Lib.hid hl
  have HS := Lib.hid hs
  have HW := Lib.hid hw
  have HF := Lib.hid hf
  have HO := Lib.hid hO
  have HD := Lib.hid hd
  clear hl hs hw hf hO hd
  go_enter Tryz.func21, Tryz.ntmps21
  go_wp2_with fail
  have hcat := cat0_in w w.heap.size rfl _ rfl
  generalize ((w.alloc _).alloc _).alloc _ = w3 at hcat ⊢
  obtain ⟨hoff, hok, hb3⟩ := hcat
  have HOFF := Lib.hid hoff
  have HOK := Lib.hid hok
  clear hoff hok
  go_loopw [8, 19] (fun v i wr => ∃ (k : Nat), k ≤ l.length ∧ i = .int .i64 k ∧ ∃ (p : Option Addr) (c : Nat), v = .slice p (asksR (l.take k)).length c ∧ Hid (wr.ownsRow w3.heap.size 39 9 (.slice p (asksR (l.take k)).length c) (asksR (l.take k)).length (reqCells (asksR (l.take k)))) ∧ RowKit.Below w3.heap.size w3 wr) (fun _ i _ => l.length - (RowKit.intOf i).toNat)
  case atStart => exact ⟨0, Nat.zero_le _, rfl, none, 0, rfl, Lib.hid (World.ownsRow_nil _ _ _ _), Below.refl _ _⟩
  case round =>
    obtain ⟨k, hk, rfl, p, c, rfl, HR, hbr⟩ := hrel
    by_cases hlt : k < l.length
    · obtain ⟨g, o, c', hv, _, hgl, hx⟩ := HL.out.at_ (k := 4) (fun _ => rfl) (by omega)
      have e1 := (Value.slice.inj hv).1
      subst e1
      have hz := List.getElem?_eq_getElem hlt
      have hat := hx k _ hz
      have HTK : Hid (asksR (l.take (k + 1)) = asksR (l.take k) ++ [askR k l[k]]) := Lib.hid (by rw [take_one hz, asksR_snoc, List.length_take, Nat.min_eq_left hk])
      generalize l[k] = x at hz hat HTK
      have hbw : RowKit.Below w.heap.size w wr := hb3.trans (hbr.mono hb3.size)
      have hatk : wr.rangeAt g (o + k * 4) x.cells := fun j v hj => by rw [hbw.cell (p := ⟨g, o + k * 4 + j, none⟩) hgl]; exact hat j v hj
      have hbx : ∀ j, (wr.alloc (.cells #[.int .i64 x.student, .string x.code, .string x.give, .int .i64 x.priority] 66)).cell? ⟨wr.heap.size, j, none⟩ = (#[.int .i64 x.student, .string x.code, .string x.give, .int .i64 x.priority] : Array Value)[j]? := fun j => Lib.cell_of_heap (heap_alloc_new wr _) j
      have hb4 := hbr.alloc hbr.size (.cells #[.int .i64 x.student, .string x.code, .string x.give, .int .i64 x.priority] 66)
      have hb5 := hb4.alloc hb4.size (.cells (Req.cells (askR k x)) 39)
      have hown := (HR.out.alloc (.cells #[.int .i64 x.student, .string x.code, .string x.give, .int .i64 x.priority] 66)).alloc (.cells (Req.cells (askR k x)) 39)
      have hone := reqs_one_at (wr.alloc (.cells #[.int .i64 x.student, .string x.code, .string x.give, .int .i64 x.priority] 66)) (askR k x) (wr.heap.size + 1) (by simp)
      have hal : (asksR (l.take k)).length ≤ 10 := by unfold asksR; simp; omega
      simp only [Req.cells, askR] at hb5 hown hone
      clear hv hx hz hat
      go_wp2_with (first
        | ((with_reducible refine wpList_load_mid (op := ⟨some 23, _, _, _, _, _⟩) ?_ 66 (.tmp 22) ?_ g (o + k * 4) ?_ x.cells _ ?_ Tryz.underlying66 ?_ ?_ ?_); rfl; rfl; rfl; exact hatk; rfl; kernel_rfl)
        | (at_builtin; go_loud (refine wpList_append_reqs rfl (.tmp 24) (.tmp 36) rfl w3.heap.size _ _ (asksR (l.take k)) [askR k x] rfl rfl hown hone (by simp; omega) hb5.size ?_; intro v9 w9 hown9 hg9; obtain ⟨p9, c9, rfl⟩ := own_form hown9)))
      have hbF := hb5.grown hg9 hb5.size (fun q hq => (own_lo hown hq).1)
      have HTL : Hid ((asksR (l.take (k + 1))).length = (asksR (l.take k)).length + 1) := Lib.hid (by rw [HTK.out, List.length_append]; rfl)
      have hoF : w9.ownsRow w3.heap.size 39 9 (.slice p9 (asksR (l.take (k + 1))).length c9) (asksR (l.take (k + 1))).length (reqCells (asksR (l.take (k + 1)))) := by rw [HTK.out]; exact hown9
      refine ⟨⟨k + 1, by omega, by go_num, p9, c9, by rw [HTL.out], Lib.hid hoF, hbF⟩, by simp [RowKit.intOf]; omega⟩
    · obtain rfl : k = l.length := by omega
      rw [List.take_length] at HR
      have HRI : Hid (ReqsIn wr (.slice p (asksR l).length c) (asksR l)) := Lib.hid (reqsIn_own HR.out)
      have hal : (asksR l).length ≤ 10 := by unfold asksR; simp; omega
      have hbw : RowKit.Below w.heap.size w wr := hb3.trans (hbr.mono hb3.size)
      have cm := met_any 0 wr (by omega) (by omega)
      rw [List.take_length]
      clear HR
      go_wp2_with fail
      refine cm.mono ?_
      rintro _ w4 ⟨v4, M, rfl, hM, hMo, hb4⟩
      obtain ⟨p4, c4, rfl⟩ := own_form hM
      have HMe : Hid (M = metAll) := Lib.hid (by rw [hMo.2.2 rfl]; rfl)
      have hbr4 := below_next hbr hb4
      have hbw4 := below_next hbw hb4
      have hcat : CatIn w4 (.slice (some ⟨w.heap.size + 1 + 1, 0, none⟩) 3 3) (.slice p4 M.length c4) (cat0 w.heap.size (w.heap.size + 1)) M :=
        ⟨HOFF.out.below hbr4, fun o ho => ⟨(HOK.out o ho).1.below hbr4, (HOK.out o ho).2⟩, fun o ho => by
          simp only [cat0, List.mem_cons, List.not_mem_nil, or_false] at ho
          rcases ho with rfl | rfl | rfl <;> (show (2 : Nat) ≤ maxLen; unfold maxLen; omega), rowIn_own (fun _ => rfl) (by decide) hM, hMo.2.1, by show 3 ≤ 1000000; omega, by have := hMo.1; omega⟩
      have cd := deal_cat 19 sortsB_19 (by omega) _ _ (.slice p (asksR l).length c) _ M 15 (asksR l) w4 hcat (HRI.out.below hb4) (by omega) HF.out (fun O' h => Nat.le_trans (actR_len_le h) (by omega))
      clear cm hM hMo hcat
      go_wp2_with fail
      refine cd.mono ?_
      rintro _ w5 ⟨s5, w5v, O', rfl, hO', hs5, hw5, hb5⟩
      obtain rfl := HO.out O' hO'
      have hdl := deal_len (L := cat0 w.heap.size (w.heap.size + 1)) (met := M) (most := 15) O'
      have hlen := hO'.len
      have hd : DealIn w5 (.agg #[s5, w5v]) ⟨S, W⟩ := by
        have := DealIn.mk' hs5 hw5 (by omega) (by omega)
        have e := HD.out w.heap.size (w.heap.size + 1)
        rw [← HMe.out] at e
        rw [← e]; exact this
      have hbw5 := below_next hbw4 hb5
      have hd2 : DealIn w5 (.agg #[.slice p2 S.length c2, .slice p3 W.length c3]) ⟨S, W⟩ := DealIn.mk' (HS.out.below hbw5) (HW.out.below hbw5) (by show S.length ≤ _; omega) (by show W.length ≤ _; omega)
      have cs := refSame_any _ _ _ _ w5 hd hd2
      rw [sameD_refl] at cs
      clear cd hd hd2 hs5 hw5 hdl
      go_wp2_with fail
      refine cs.mono ?_
      rintro _ w6 ⟨rfl, hb6⟩
      go_wp2_with fail
      go_ret
      exact ⟨rfl, below_next hbw5 hb6⟩
end Go.Proofs.YtbihaoadgcckhaaGreat
