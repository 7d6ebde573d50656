/- The reference of layer 28: Deal. -/
import Derived.Test.YteopjiedjnaeiaaGreatDgbb
import Derived.Test.YteopjiedjnaeiaaGreatDgao
import Derived.Test.YteopjiedjnaeiaaGreatDgaq
import Derived.Test.YteopjiedjnaeiaaGreatDgar
import Derived.Deep.DeepCutAuto
/- slices' symMerge at requests, in general; the stable sort of up to 22 requests. -/
namespace Go.Proofs.YteopjiedjnaeiaaGreat
open Go Go.Proofs Go.RowKit Go.Maps Go.Sort Go.Lib

theorem get_split {α : Type} (l : List α) (k : Nat) (h : k ≤ l.length) : ∃ l1 l2, l = l1 ++ l2 ∧ l1.length = k := ⟨l.take k, l.drop k, (List.take_append_drop k l).symm, by simp; omega⟩
/-- Where the search stops: what goes to the left is not greater than what stays. -/
theorem sym_parts {A1 A2 B1 B2 : List Req} (sA : Srt ltB (A1 ++ A2)) (sB : Srt ltB (B1 ++ B2))
    (hT : ∀ x y, (A1 ++ A2)[A1.length - 1]? = some x → (B1 ++ B2)[B1.length]? = some y → 0 < A1.length → ltB y x = false)
    (hG : ∀ x y, (A1 ++ A2)[A1.length]? = some x → (B1 ++ B2)[B1.length - 1]? = some y → 0 < B1.length → ltB y x = true) :
    (∀ x ∈ A1, ∀ y ∈ B2, ltB y x = false) ∧ ∀ y ∈ B1, ∀ x ∈ A2, ltB y x = true := by
  constructor
  · intro x hx y hy
    obtain ⟨i, hi⟩ := List.mem_iff_getElem?.1 hx
    obtain ⟨j, hj⟩ := List.mem_iff_getElem?.1 hy
    have il := (List.getElem?_eq_some_iff.1 hi).1
    have jl := (List.getElem?_eq_some_iff.1 hj).1
    have hi' : (A1 ++ A2)[i]? = some x := by rw [List.getElem?_append_left il]; exact hi
    have hj' : (B1 ++ B2)[B1.length + j]? = some y := by rw [List.getElem?_append_right (by omega), Nat.add_sub_cancel_left]; exact hj
    obtain ⟨u, hu⟩ : ∃ u, (A1 ++ A2)[A1.length - 1]? = some u := ⟨_, List.getElem?_eq_getElem (by simp; omega)⟩
    obtain ⟨z, hz⟩ : ∃ z, (B1 ++ B2)[B1.length]? = some z := ⟨_, List.getElem?_eq_getElem (by simp; omega)⟩
    have h1 := hT u z hu hz (by omega)
    have h2 := srt_get? swoB sB (Nat.le_add_right _ _) hz hj'
    have h3 := srt_get? swoB sA (show i ≤ A1.length - 1 by omega) hi' hu
    exact swoB.ntrans y u x (swoB.ntrans y z u h2 h1) h3
  · intro y hy x hx
    obtain ⟨i, hi⟩ := List.mem_iff_getElem?.1 hx
    obtain ⟨j, hj⟩ := List.mem_iff_getElem?.1 hy
    have il := (List.getElem?_eq_some_iff.1 hi).1
    have jl := (List.getElem?_eq_some_iff.1 hj).1
    have hj' : (B1 ++ B2)[j]? = some y := by rw [List.getElem?_append_left jl]; exact hj
    have hi' : (A1 ++ A2)[A1.length + i]? = some x := by rw [List.getElem?_append_right (by omega), Nat.add_sub_cancel_left]; exact hi
    obtain ⟨u, hu⟩ : ∃ u, (A1 ++ A2)[A1.length]? = some u := ⟨_, List.getElem?_eq_getElem (by simp; omega)⟩
    obtain ⟨z, hz⟩ : ∃ z, (B1 ++ B2)[B1.length - 1]? = some z := ⟨_, List.getElem?_eq_getElem (by simp; omega)⟩
    have h1 := hG u z hu hz (by omega)
    have h2 := srt_get? swoB sB (show j ≤ B1.length - 1 by omega) hj' hz
    have h3 := srt_get? swoB sA (Nat.le_add_right _ _) hu hi'
    exact lt_le swoB (le_lt swoB h2 h1) h3
set_option maxHeartbeats 8000000 in
set_option maxRecDepth 100000 in
theorem sym_any (W0 : World) (g cap n : Nat) (d0 : Array Req) (hH : HoldsK encR 9 W0 g 0 d0) (hblk : g < W0.heap.size) (hsz : n ≤ 1000000) (hn : d0.size = n) : ∀ (N : Nat) (P A B S : List Req) (a m b : Nat) (w : World), A.length + B.length ≤ N → 0 < A.length → 0 < B.length → P.length = a → a + A.length = m → m + B.length = b → Srt ltB A → Srt ltB B → Row W0 g (P ++ (A ++ (B ++ S))) w → (P ++ (A ++ (B ++ S))).length = d0.size →
    Calls Tryz.prog 66 #[.slice (some ⟨g, 0, none⟩) n cap, .int .i64 a, .int .i64 m, .int .i64 b, .func (.func 22) #[] #[]] w (SymPost W0 g P A B S) := by
  intro N
  induction N with
  | zero => intro P A B S a m b w h1 h2 h3; omega
  | succ N ih =>
    intro P A B S a m b w hN hA hB ha hm hb sA sB hR hd
    by_cases hA1 : A.length = 1
    · obtain ⟨v, rfl⟩ := List.length_eq_one_iff.1 hA1
      exact sym_one W0 g cap n d0 hH hblk hsz P B S v a m b hB ha hm hb sB w hR hd hn
    by_cases hB1 : B.length = 1
    · obtain ⟨v, rfl⟩ := List.length_eq_one_iff.1 hB1
      exact sym_last W0 g cap n d0 hH hblk hsz P A S v a m b (by omega) ha hm hb sA w hR hd hn
    have hl : a + A.length + B.length + S.length = n := by simp only [List.length_append] at hd; omega
    obtain ⟨la, hla⟩ : ∃ la, A.length = la := ⟨_, rfl⟩
    obtain ⟨lb, hlb⟩ : ∃ lb, B.length = lb := ⟨_, rfl⟩
    obtain ⟨mid, hmid0⟩ : ∃ mid, (a + b) / 2 = mid := ⟨_, rfl⟩
    obtain ⟨nn, hnn⟩ : ∃ nn, mid + m = nn := ⟨_, rfl⟩
    obtain ⟨pp, hpp⟩ : ∃ pp, nn - 1 = pp := ⟨_, rfl⟩
    have e1 : IntKind.i64.wrap ((m : Int) - (a : Int)) = (la : Int) := by rw [IntWalk.i64_in _ (by omega)]; omega
    have e2 : IntKind.i64.wrap ((b : Int) - (m : Int)) = (lb : Int) := by rw [IntWalk.i64_in _ (by omega)]; omega
    have n1 : ((la : Int) == 1) = false := by rw [beq_eq_false_iff_ne]; omega
    have n2 : ((lb : Int) == 1) = false := by rw [beq_eq_false_iff_ne]; omega
    have e3 : ((a : Int) + (b : Int)) / 2 = (mid : Int) := by omega
    have e4 : IntKind.i64.wrap ((mid : Int) + (m : Int)) = (nn : Int) := by rw [IntWalk.i64_in _ (by omega)]; omega
    have e5 : IntKind.i64.wrap ((nn : Int) - 1) = (pp : Int) := by rw [IntWalk.i64_in _ (by omega)]; omega
    have f1 : a < mid := by omega
    have f2 : mid < b := by omega
    have f3 : a + b - 1 ≤ mid + mid := by omega
    have f4 : mid + mid ≤ a + b := by omega
    obtain ⟨s0, hs0⟩ : ∃ s0, (if mid < m then nn - b else a) = s0 := ⟨_, rfl⟩
    obtain ⟨r0, hr0⟩ : ∃ r0, (if mid < m then mid else m) = r0 := ⟨_, rfl⟩
    have hs1 : a ≤ s0 ∧ s0 ≤ r0 ∧ r0 ≤ m ∧ r0 ≤ mid ∧ nn ≤ s0 + b := by
      by_cases hmm : mid < m
      · rw [if_pos hmm] at hs0 hr0; omega
      · rw [if_neg hmm] at hs0 hr0; omega
    have HSA := Lib.hid sA
    have HSB := Lib.hid sB
    have HS0 := Lib.hid hs0
    have HR0 := Lib.hid hr0
    have HIH := Lib.hid ih
    have HLA := Lib.hid hla
    have HLB := Lib.hid hlb
    have HNN := Lib.hid hnn
    have HPP := Lib.hid hpp
    clear sA sB ih hs0 hr0
    go_enter Tryz.func66, Tryz.ntmps66
    go_upto_if 140 with fail
    go_cut [20, 21] (fun u v wx => u = .int .i64 s0 ∧ v = .int .i64 r0 ∧ wx = w)
    case first =>
      as_aux_lemma =>
        by_cases hmm : mid < m
        · have t1 : decide ((mid : Int) < (m : Int)) = true := decide_eq_true (by omega)
          have t2 : decide (mid < m) = true := decide_eq_true hmm
          have e6 : IntKind.i64.wrap ((nn : Int) - (b : Int)) = (s0 : Int) := by have := HS0.out; rw [if_pos hmm] at this; rw [IntWalk.i64_in _ (by omega)]; omega
          have e7 : mid = r0 := by have := HR0.out; rwa [if_pos hmm] at this
          have E7 := Lib.hid e7
          clear e7
          go_wp2_with fail
          go_meet
          case rel => exact ⟨rfl, by rw [E7.out], rfl⟩
        · have t1 : decide ((mid : Int) < (m : Int)) = false := decide_eq_false (by omega)
          have t2 : decide (mid < m) = false := decide_eq_false hmm
          have e6 : a = s0 := by have := HS0.out; rwa [if_neg hmm] at this
          have e7 : m = r0 := by have := HR0.out; rwa [if_neg hmm] at this
          have E6 := Lib.hid e6
          have E7 := Lib.hid e7
          clear e6 e7
          go_wp2_with fail
          go_meet
          case rel => exact ⟨by rw [E6.out], by rw [E7.out], rfl⟩
    case rest =>
      obtain ⟨rfl, rfl, rfl⟩ := hcut
      clear e1 e2 n1 n2 e3 e4
      go_wp2_with fail
      clear e5
      go_loopw [20, 21] (fun u v' wr => ∃ x y : Nat, u = .int .i64 x ∧ v' = .int .i64 y ∧ s0 ≤ x ∧ x ≤ y ∧ y ≤ r0 ∧ Hid (s0 < x → ∀ p q, A[x - 1 - a]? = some p → B[nn - x - m]? = some q → ltB q p = false) ∧ Hid (y < r0 → ∀ p q, A[y - a]? = some p → B[nn - 1 - y - m]? = some q → ltB q p = true) ∧ Row W0 g (P ++ (A ++ (B ++ S))) wr) (fun u v' _ => (RowKit.intOf v').toNat - (RowKit.intOf u).toNat)
      case atStart => exact ⟨s0, r0, rfl, rfl, Nat.le_refl _, hs1.2.1, Nat.le_refl _, Lib.hid (fun h => absurd h (Nat.lt_irrefl _)), Lib.hid (fun h => absurd h (Nat.lt_irrefl _)), hR⟩
      case round =>
        clear hR
        obtain ⟨x, y, rfl, rfl, hax, hxy, hym, HL, HG, hR⟩ := hrel
        obtain ⟨hs2, hs3, hs4, hs5, hs6⟩ := hs1
        by_cases hlt : x < y
        · as_aux_lemma =>
            have hlt' : (x : Int) < (y : Int) := by omega
            obtain ⟨h, hh0⟩ : ∃ h, (x + y) / 2 = h := ⟨_, rfl⟩
            have hh : ((x : Int) + (y : Int)) / 2 = (h : Int) := by omega
            have hxh : x ≤ h := by omega
            have hhy : h < y := by omega
            obtain ⟨o, ho⟩ : ∃ o, pp - h = o := ⟨_, rfl⟩
            have hom : m ≤ o := by omega
            have hob : o < b := by omega
            obtain ⟨z, hz⟩ : ∃ z, A[h - a]? = some z := ⟨_, List.getElem?_eq_getElem (by omega)⟩
            obtain ⟨q, hq⟩ : ∃ q, B[o - m]? = some q := ⟨_, List.getElem?_eq_getElem (by omega)⟩
            have hXh : (P ++ (A ++ (B ++ S)))[h]? = some z := by
              rw [List.getElem?_append_right (by omega), List.getElem?_append_left (by omega), ha]; exact hz
            have hXo : (P ++ (A ++ (B ++ S)))[o]? = some q := by
              rw [List.getElem?_append_right (by omega), List.getElem?_append_right (by omega), List.getElem?_append_left (by omega), show o - P.length - A.length = o - m by omega]; exact hq
            have HZ := Lib.hid hz
            have HQ := Lib.hid hq
            have hw : IntKind.i64.wrap ((pp : Int) - (h : Int)) = (o : Int) := by rw [IntWalk.i64_in _ (by omega)]; omega
            have HN1 : Hid (ltB q z = false → h < h + 1 → ∀ p' q', A[h + 1 - 1 - a]? = some p' → B[nn - (h + 1) - m]? = some q' → ltB q' p' = false) := Lib.hid fun hb _ p' q' hp' hq' => by
              rw [show h + 1 - 1 - a = h - a by omega, HZ.out] at hp'
              rw [show nn - (h + 1) - m = o - m by omega, HQ.out] at hq'
              cases hp'; cases hq'; exact hb
            have HN2 : Hid (ltB q z = true → ∀ p' q', A[h - a]? = some p' → B[nn - 1 - h - m]? = some q' → ltB q' p' = true) := Lib.hid fun hb p' q' hp' hq' => by
              rw [HZ.out] at hp'
              rw [show nn - 1 - h - m = o - m by omega, HQ.out] at hq'
              cases hp'; cases hq'; exact hb
            clear hh0 hz hq
            go_wp2_with fail
            refine sx_t35 pp W0 d0 (P ++ (A ++ (B ++ S))) g n cap o h q z wr _ hH hblk hR hd (hd.trans hn) hXo hXh (by omega) (by omega) hw ?_
            intros
            rename_i wx hwx
            have HW := Lib.hid hwx
            clear hXh hXo hR hwx hw
            obtain ⟨bt, hbt⟩ : ∃ bt, decide (cmpB q z < 0) = bt := ⟨_, rfl⟩
            have hlt1 : ltB q z = bt := hbt
            rw [hbt]
            clear hbt
            cases bt
            · have HN := Lib.hid (HN1.out hlt1)
              clear hlt1 HN1 HN2
              go_wp2_with fail
              go_roundw
              case rel => exact ⟨h + 1, y, by go_num, rfl, by omega, by omega, hym, Lib.hid (fun _ => HN.out (Nat.lt_succ_self _)), HG, HW.out⟩
              case measure => simp [RowKit.intOf]; omega
            · have HN := Lib.hid (HN2.out hlt1)
              clear hlt1 HN1 HN2
              go_wp2_with fail
              go_roundw
              case rel => exact ⟨x, h, rfl, rfl, hax, by omega, by omega, HL, Lib.hid (fun _ => HN.out), HW.out⟩
              case measure => simp [RowKit.intOf]; omega
        · obtain rfl : y = x := by omega
          have hlt' : ¬ (y : Int) < (y : Int) := by omega
          obtain ⟨e, he⟩ : ∃ e, nn - y = e := ⟨_, rfl⟩
          have hwe : IntKind.i64.wrap ((nn : Int) - (y : Int)) = (e : Int) := by rw [IntWalk.i64_in _ (by omega)]; omega
          obtain ⟨A1, A2, hA12, hlA1⟩ := get_split A (y - a) (by omega)
          obtain ⟨B1, B2, hB12, hlB1⟩ := get_split B (e - m) (by omega)
          have hlA2 : A2.length = m - y := by have := congrArg List.length hA12; rw [List.length_append] at this; omega
          have hlB2 : B2.length = b - e := by have := congrArg List.length hB12; rw [List.length_append] at this; omega
          have HP : Hid ((∀ x ∈ A1, ∀ y ∈ B2, ltB y x = false) ∧ ∀ y ∈ B1, ∀ x ∈ A2, ltB y x = true) := Lib.hid (by
            refine sym_parts (hA12 ▸ HSA.out) (hB12 ▸ HSB.out) ?_ ?_
            · intro p q hp hq h0
              rw [← hA12, hlA1] at hp
              rw [← hB12, hlB1] at hq
              by_cases h1 : s0 < y
              · exact HL.out h1 p q (by rw [show y - 1 - a = y - a - 1 by omega]; exact hp) (by rw [show nn - y - m = e - m by omega]; exact hq)
              · exfalso
                have h2 : a < s0 := by omega
                have h3 := HS0.out
                have h4 := (List.getElem?_eq_some_iff.1 hq).1
                by_cases hmm : mid < m
                · rw [if_pos hmm] at h3; omega
                · rw [if_neg hmm] at h3; omega
            · intro p q hp hq h0
              rw [← hA12, hlA1] at hp
              rw [← hB12, hlB1] at hq
              by_cases h1 : y < r0
              · exact HG.out h1 p q hp (by rw [show nn - 1 - y - m = e - m - 1 by omega]; exact hq)
              · exfalso
                have h3 := HR0.out
                have h4 := (List.getElem?_eq_some_iff.1 hp).1
                by_cases hmm : mid < m
                · rw [if_pos hmm] at h3; omega
                · rw [if_neg hmm] at h3; omega)
          have hR1 : Row W0 g (P ++ (A1 ++ (A2 ++ (B1 ++ (B2 ++ S))))) wr := by
            rw [hA12, hB12] at hR; simpa using hR
          have HA12 := Lib.hid hA12
          have HB12 := Lib.hid hB12
          have HR1 := Lib.hid hR1
          clear hR HL HG hR1 hA12 hB12
          obtain ⟨bt39, hbt39⟩ : ∃ bt, (decide (y < m) && decide (m < e)) = bt := ⟨_, rfl⟩
          have HBT39 := Lib.hid hbt39
          clear hbt39
          go_upto_region 39 with fail
          go_cut [185] (fun v wx => v = .bool bt39 ∧ wx = wr)
          case first =>
            as_aux_lemma =>
              by_cases c1 : y < m
              · by_cases c2 : m < e
                · go_wp2_with fail
                  go_meet
                  case rel => exact ⟨by rw [← HBT39.out]; simp [c1, c2], rfl⟩
                · go_wp2_with fail
                  go_meet
                  case rel => exact ⟨by rw [← HBT39.out]; simp [c1, c2], rfl⟩
              · go_wp2_with fail
                go_meet
                case rel => exact ⟨by rw [← HBT39.out]; simp [c1], rfl⟩
          obtain ⟨rfl, rfl⟩ := hcut
          go_upto_if 185 with fail
          go_cut [] (fun wx => Hid (Row W0 g (P ++ (A1 ++ (B1 ++ (A2 ++ (B2 ++ S))))) wx))
          case first =>
            as_aux_lemma =>
              cases bt39
              · have hF : Hid (Row W0 g (P ++ (A1 ++ (B1 ++ (A2 ++ (B2 ++ S))))) wc) := Lib.hid (by
                  have hh := HBT39.out
                  have h0 : A2 = [] ∨ B1 = [] := by
                    by_cases c1 : y < m
                    · right
                      apply List.eq_nil_of_length_eq_zero
                      have : ¬ m < e := fun c2 => by simp [c1, c2] at hh
                      omega
                    · left
                      apply List.eq_nil_of_length_eq_zero
                      omega
                  have hr := HR1.out
                  rcases h0 with rfl | rfl <;> simpa using hr)
                go_wp2_with fail
                go_meet
                case rel => exact hF
              · have c1 : y < m := by have := HBT39.out; simp at this; exact this.1
                have c2 : m < e := by have := HBT39.out; simp at this; exact this.2
                have cs := rotate_any W0 g cap n d0 hH hblk hsz (P ++ A1) A2 B1 (B2 ++ S) y m e (by omega) (by omega) (by rw [List.length_append]; omega) (by omega) (by omega) wc (by have := HR1.out; simpa using this) (by rw [← hd, HA12.out, HB12.out]; simp) hn
                clear c1 c2
                go_wp2_with fail
                refine cs.mono ?_
                rintro _ wx ⟨rfl, hx⟩
                have hF : Hid (Row W0 g (P ++ (A1 ++ (B1 ++ (A2 ++ (B2 ++ S))))) wx) := Lib.hid (by simpa using hx)
                clear cs hx
                go_wp2_with fail
                go_meet
                case rel => exact hF
          have HR2 := hcut
          clear hcut HR1
          obtain ⟨bt41, hbt41⟩ : ∃ bt, (decide (a < y) && decide (y < mid)) = bt := ⟨_, rfl⟩
          have HBT41 := Lib.hid hbt41
          clear hbt41
          go_upto_region 41 with fail
          go_cut [199] (fun v wx => v = .bool bt41 ∧ wx = wc)
          case first =>
            as_aux_lemma =>
              by_cases c1 : a < y
              · by_cases c2 : y < mid
                · go_wp2_with fail
                  go_meet
                  case rel => exact ⟨by rw [← HBT41.out]; simp [c1, c2], rfl⟩
                · go_wp2_with fail
                  go_meet
                  case rel => exact ⟨by rw [← HBT41.out]; simp [c1, c2], rfl⟩
              · go_wp2_with fail
                go_meet
                case rel => exact ⟨by rw [← HBT41.out]; simp [c1], rfl⟩
          obtain ⟨rfl, rfl⟩ := hcut
          go_upto_if 199 with fail
          go_cut [] (fun wx => Hid (∃ C1, Row W0 g (P ++ (C1 ++ (A2 ++ (B2 ++ S)))) wx ∧ C1.Perm (A1 ++ B1) ∧ Srt ltB C1))
          case first =>
            as_aux_lemma =>
              have sA1 : Hid (Srt ltB A1) := Lib.hid (srt_app.1 (HA12.out ▸ HSA.out)).1
              have sB1 : Hid (Srt ltB B1) := Lib.hid (srt_app.1 (HB12.out ▸ HSB.out)).1
              cases bt41
              · have hF : Hid (∃ C1, Row W0 g (P ++ (C1 ++ (A2 ++ (B2 ++ S)))) wc ∧ C1.Perm (A1 ++ B1) ∧ Srt ltB C1) := Lib.hid (by
                  have hh := HBT41.out
                  have h0 : A1 = [] ∨ B1 = [] := by
                    by_cases c1 : a < y
                    · right
                      apply List.eq_nil_of_length_eq_zero
                      have : ¬ y < mid := fun c2 => by simp [c1, c2] at hh
                      omega
                    · left
                      apply List.eq_nil_of_length_eq_zero
                      omega
                  have hr := HR2.out
                  rcases h0 with rfl | rfl
                  · exact ⟨B1, by simpa using hr, .refl _, sB1.out⟩
                  · exact ⟨A1, by simpa using hr, by simp, sA1.out⟩)
                go_wp2_with fail
                go_meet
                case rel => exact hF
              · have c1 : a < y := by have := HBT41.out; simp at this; exact this.1
                have c2 : y < mid := by have := HBT41.out; simp at this; exact this.2
                have cs := HIH.out P A1 B1 (A2 ++ (B2 ++ S)) a y mid wc (by omega) (by omega) (by omega) ha (by omega) (by omega) sA1.out sB1.out HR2.out (by rw [← hd, HA12.out, HB12.out]; simp; omega)
                clear c1 c2
                go_wp2_with fail
                refine cs.mono ?_
                rintro _ wx ⟨rfl, hx⟩
                have hF := Lib.hid hx
                clear cs hx
                go_wp2_with fail
                go_meet
                case rel => exact hF
          have HR3 := hcut
          clear hcut HR2
          obtain ⟨bt43, hbt43⟩ : ∃ bt, (decide (mid < e) && decide (e < b)) = bt := ⟨_, rfl⟩
          have HBT43 := Lib.hid hbt43
          clear hbt43
          go_upto_region 43 with fail
          go_cut [213] (fun v wx => v = .bool bt43 ∧ wx = wc)
          case first =>
            as_aux_lemma =>
              by_cases c1 : mid < e
              · by_cases c2 : e < b
                · go_wp2_with fail
                  go_meet
                  case rel => exact ⟨by rw [← HBT43.out]; simp [c1, c2], rfl⟩
                · go_wp2_with fail
                  go_meet
                  case rel => exact ⟨by rw [← HBT43.out]; simp [c1, c2], rfl⟩
              · go_wp2_with fail
                go_meet
                case rel => exact ⟨by rw [← HBT43.out]; simp [c1], rfl⟩
          obtain ⟨rfl, rfl⟩ := hcut
          go_upto_if 213 with fail
          have sA2 : Hid (Srt ltB A2) := Lib.hid (srt_app.1 (HA12.out ▸ HSA.out)).2.1
          have sB2 : Hid (Srt ltB B2) := Lib.hid (srt_app.1 (HB12.out ▸ HSB.out)).2.1
          cases bt43
          · have hF : Hid (SymPost W0 g P A B S (.returned (.tuple #[])) wc) := Lib.hid (by
              obtain ⟨C1, hr, hp, hs⟩ := HR3.out
              have hh := HBT43.out
              have h0 : A2 = [] ∨ B2 = [] := by
                by_cases c1 : mid < e
                · right
                  apply List.eq_nil_of_length_eq_zero
                  have : ¬ e < b := fun c2 => by simp [c1, c2] at hh
                  omega
                · left
                  apply List.eq_nil_of_length_eq_zero
                  omega
              obtain ⟨C2, h2, p2, s2⟩ : ∃ C2, A2 ++ (B2 ++ S) = C2 ++ S ∧ C2.Perm (A2 ++ B2) ∧ Srt ltB C2 := by
                rcases h0 with rfl | rfl
                · exact ⟨B2, by simp, .refl _, sB2.out⟩
                · exact ⟨A2, by simp, by simp, sA2.out⟩
              obtain ⟨q1, q2⟩ := sym_halves swoB (HA12.out ▸ HSA.out) (HB12.out ▸ HSB.out) HP.out.1 HP.out.2 hp hs p2 s2
              refine ⟨rfl, C1 ++ C2, ?_, ?_, q2⟩
              · rw [h2] at hr; simpa using hr
              · rw [HA12.out, HB12.out]; exact q1)
            go_wp2_with fail
            exact ⟨rfl, _, results_none rfl _ _ _, hF.out⟩
          · have c1 : mid < e := by have := HBT43.out; simp at this; exact this.1
            have c2 : e < b := by have := HBT43.out; simp at this; exact this.2
            obtain ⟨C1, hr, hp, hs⟩ := HR3.out
            have hlC1 : C1.length = mid - a := by rw [hp.length_eq, List.length_append]; omega
            have cs := HIH.out (P ++ C1) A2 B2 S mid e b wc (by omega) (by omega) (by omega) (by rw [List.length_append]; omega) (by omega) (by omega) sA2.out sB2.out (by simpa using hr) (by rw [← hd, HA12.out, HB12.out]; simp; omega)
            have HH : Hid (∀ w', SymPost W0 g (P ++ C1) A2 B2 S (.returned (.tuple #[])) w' → SymPost W0 g P A B S (.returned (.tuple #[])) w') := Lib.hid (by
              rintro w' ⟨_, C2, hr2, p2, s2⟩
              obtain ⟨q1, q2⟩ := sym_halves swoB (HA12.out ▸ HSA.out) (HB12.out ▸ HSB.out) HP.out.1 HP.out.2 hp hs p2 s2
              refine ⟨rfl, C1 ++ C2, by simpa using hr2, ?_, q2⟩
              rw [HA12.out, HB12.out]; exact q1)
            clear c1 c2 hr hp hs hlC1
            go_wp2_with fail
            refine cs.mono ?_
            rintro _ wx ⟨rfl, hx⟩
            have hF := HH.out wx ⟨rfl, hx⟩
            clear cs hx HH
            go_wp2_with fail
            exact ⟨rfl, _, results_none rfl _ _ _, hF⟩
end Go.Proofs.YteopjiedjnaeiaaGreat
namespace Go.Proofs.YteopjiedjnaeiaaGreat
open Go Go.Proofs Go.RowKit Go.Maps Go.Sort Go.Lib
attribute [local go_sem] Req.cells
attribute [local go_sem ↓] seat_load

def RefDealPost (L : List Off) (M : List Seat) (most : Int) (R : List Req) (w : World) (e : Ending) (w' : World) : Prop :=
  ∃ v A, e = .returned v ∧ IsSet A R ∧ DealIn w' v (dealP L M most (ordP (actR A) (actR A).length)) ∧ RowKit.Below w.heap.size w w'
theorem DSt.seat2 {w0 w w' : World} {db : Nat} {d : Deal} {sv wv v' : Value} {X : List Seat} (h : DSt w0 db d sv wv w) {w1 : World} (hb : RowKit.Below w.heap.size w w1) (hg : w1.grownBy w' (some db)) (hx : w'.heap[db]? = some (.cells #[v', wv] 45 (0, 0))) (ho : w'.ownsRow w1.heap.size 53 2 v' X.length (flatE Seat.cells X)) :
    DSt w0 db ⟨X, d.waits⟩ v' wv w' := by
  have h1 := h.below hb
  have hlt := h.low
  refine ⟨grows_trans h1.keep hg, hx, row_base ho h1.size, h1.waits.kept hg ?_, ?_, hlt⟩
  · cases hq : wv.ownBlock with
    | none => exact .inl rfl
    | some q => exact .inr (fun e => by have h2 := (own_lo h.waits hq).1; injection e with e; omega)
  · cases hq : v'.ownBlock with
    | none => exact .inl rfl
    | some q =>
      refine .inr fun e => ?_
      have h2 : w1.heap.size ≤ q := (own_lo ho hq).1
      have h3 := (own_lo h1.waits e.symm).2
      omega
theorem far_box {w : World} {g o db : Nat} {x : Req} {t : TypeId} (h : w.rangeAt g o x.cells.toList) (hb : w.heap[db]? = some (.cells #[.slice none 0 0, .slice none 0 0] t (0, 0))) : g ≠ db := fun e => by
  subst e
  have h1 := h 0 _ rfl
  rw [Nat.add_zero, Lib.cell_of_heap hb] at h1
  match o, h1 with
  | 0, h1 => cases h1
  | 1, h1 => cases h1
  | n + 2, h1 => simp at h1
set_option maxHeartbeats 16000000 in
set_option maxRecDepth 100000 in
theorem refDeal_any (ov mv lv : Value) (L : List Off) (M : List Seat) (most : Int) (R : List Req) (w : World) (hO : RowIn Off.cells w ov L) (lo : L.length ≤ 1000000) (ho : FewO w L) (hM : RowIn Seat.cells w mv M) (lm : M.length ≤ 1000000) (hR : ReqsIn w lv R) (lR : R.length ≤ 800) (hs : ∀ r ∈ R, r.fits) :
    Calls Tryz.prog 11 #[ov, mv, .int .i64 most, lv] w (RefDealPost L M most R w) := by
  have hbb := (below_alloc1 w (.cells #[.slice none 0 0, .slice none 0 0] 45)).alloc (by simp) (.cells #[.slice none 0 0, .slice none 0 0] 45)
  have hx8 : ((w.alloc (.cells #[.slice none 0 0, .slice none 0 0] 45)).alloc (.cells #[.slice none 0 0, .slice none 0 0] 45)).heap[w.heap.size]? = some (.cells #[.slice none 0 0, .slice none 0 0] 45 (0, 0)) := by rw [(below_alloc1 _ _).block _ (by simp)]; exact heap_alloc_new w _
  have hx9 := new_two w (.cells #[.slice none 0 0, .slice none 0 0] 45) (.cells #[.slice none 0 0, .slice none 0 0] 45)
  have HO := Lib.hid hO
  have HW := Lib.hid ho
  have HM := Lib.hid hM
  have HR := Lib.hid hR
  have HS := Lib.hid hs
  obtain ⟨p1, c1, rfl, _⟩ := hO.form
  obtain ⟨pm, cm, rfl, _⟩ := hM.form
  clear hO ho hM hR hs
  go_enter Tryz.func11, Tryz.ntmps11
  go_upto_region 2 with fail
  generalize World.alloc _ _ = W at hbb hx8 hx9 ⊢
  go_wp2_with fail
  refine (refActive_any lv R W (HR.out.below hbb) (by omega) HS.out).mono ?_
  rintro _ w1 ⟨v1, A, rfl, hA, hr1, hb1⟩
  have hlA : (actR A).length ≤ R.length := Nat.le_trans (keepR_len _ _) (isSet_len hA)
  have HA := Lib.hid hA
  clear hA
  go_wp2_with fail
  refine (refOrder_any v1 (actR A) w1 hr1 (by omega)).mono ?_
  rintro _ w2 ⟨v2, rfl, hr2, hb2⟩
  obtain ⟨O, hOe⟩ : ∃ O, ordP (actR A) (actR A).length = O := ⟨_, rfl⟩
  have hlO : O.length ≤ 800 := by rw [← hOe, ordP_len]; omega
  rw [hOe] at hr2
  have HOE := Lib.hid hOe
  clear hOe hlA
  obtain ⟨pO, cO, rfl, _⟩ := hr2.form
  have hW2 := below_next hb1 hb2
  have HB2 : Hid (RowKit.Below w.heap.size w w2) := Lib.hid (below_next hbb hW2)
  have hx8' := (hW2.block w.heap.size (Array.getElem?_eq_some_iff.1 hx8).1).trans hx8
  have hx9' := (hW2.block (w.heap.size + 1) (Array.getElem?_eq_some_iff.1 hx9).1).trans hx9
  have hst : DSt w2 (w.heap.size + 1) ⟨[], []⟩ (.slice none 0 0) (.slice none 0 0) w2 := ⟨below_grows (Below.refl _ _), hx9', World.ownsRow_nil _ _ _ _, World.ownsRow_nil _ _ _ _, .inl rfl, (Array.getElem?_eq_some_iff.1 hx9').1⟩
  have hl8 : w.heap.size + 1 < w2.heap.size := (Array.getElem?_eq_some_iff.1 hx9').1
  have HX8 := Lib.hid hx8'
  have HRO := Lib.hid hr2
  have HX9 := Lib.hid hx9'
  have hdbe : w.heap.size + 1 = w.heap.size + 1 := rfl
  generalize hdb : w.heap.size + 1 = db at hst HX9 hl8 hx9 hx9' hdbe
  clear hr1 hr2 hb1 hb2 hW2 hx8 hx9 hx8' hx9' hbb
  go_wp2_with fail
  go_loopw [11] (fun i wr => ∃ (k : Nat) (sv wv : Value), k ≤ O.length ∧ i = .int .i64 k ∧ DSt w2 db (dealP L M most (O.take k)) sv wv wr) (fun i _ => O.length - (RowKit.intOf i).toNat)
  case atStart => exact ⟨0, _, _, Nat.zero_le _, rfl, hst⟩
  case round =>
    clear hst
    obtain ⟨k, sv, wv, hk, rfl, hst⟩ := hrel
    obtain ⟨ps, cs, rfl⟩ := own_form hst.seats
    obtain ⟨pw, cw, rfl⟩ := own_form hst.waits
    by_cases hlt : k < O.length
    · obtain ⟨g, o, c', hv, _, hgl, hx⟩ := HRO.out.at_ (by omega)
      have e1 := (Value.slice.inj hv).1
      subst e1
      have hz := List.getElem?_eq_getElem hlt
      have hgb := far_box (hx k _ hz) HX9.out
      have hatk := (hx k _ hz).grown hst.keep (by simp; omega)
      have HTK := Lib.hid (take_one hz)
      generalize O[k] = x at hz hatk HTK
      have hdl := deal_len (L := L) (met := M) (most := most) (O.take k)
      have hdl1 : (dealP L M most (O.take k)).seats.length ≤ 800 := by have := hdl.1; simp at this; omega
      have hdl2 : (dealP L M most (O.take k)).waits.length ≤ 800 := by have := hdl.2; simp at this; omega
      have HSN := Lib.hid (dealP_snoc L M most (O.take k) x)
      rw [← HTK.out] at HSN
      generalize dealP L M most (O.take k) = d at hst hdl1 hdl2 HSN
      clear hv hx hz hdl
      have hb2 := (below_alloc1 wr (.cells x.cells 39)).alloc (by simp) (.cells #[.int .i64 x.student, .string x.code] 53)
      have hst2 := hst.below hb2
      have hbx : ∀ j, (wr.alloc (.cells x.cells 39)).cell? ⟨wr.heap.size, j, none⟩ = x.cells[j]? := fun j => Lib.cell_of_heap (heap_alloc_new wr _) j
      have hbx2 : ∀ j, ((wr.alloc (.cells x.cells 39)).alloc (.cells #[.int .i64 x.student, .string x.code] 53)).cell? ⟨wr.heap.size, j, none⟩ = x.cells[j]? := fun j => by rw [(below_alloc1 (wr.alloc (.cells x.cells 39)) _).cell (p := ⟨wr.heap.size, j, none⟩) (by simp)]; exact hbx j
      have hs2 := new_two wr (.cells x.cells 39) (.cells #[.int .i64 x.student, .string x.code] 53)
      have hdc2 := hst2.cell
      have HST := Lib.hid hst
      simp only [Req.cells] at hb2 hst2 hbx hbx2 hs2 hdc2
      clear hst
      go_upto_region 8 with ((with_reducible refine wpList_load_mid (op := ⟨some 29, _, _, _, _, _⟩) ?_ 39 (.tmp 28) ?_ g (o + k * 9) ?_ (Req.cells x).toList _ ?_ Tryz.underlying39 ?_ ?_ ?_); rfl; rfl; rfl; exact hatk; rfl; kernel_rfl)
      clear hbx hatk
      generalize World.alloc (World.alloc wr _) _ = wr2 at hb2 hst2 hbx2 hs2 hdc2 ⊢
      obtain ⟨t, hT⟩ : ∃ t, (!x.give.toList.isEmpty) = t := ⟨_, rfl⟩
      have HT : Hid (t = !decide (x.give.size = 0)) := Lib.hid (by rw [← hT]; exact give_test x.give)
      obtain ⟨Ot, hOt⟩ : ∃ Ot, Ot = othersD d.seats x := ⟨_, rfl⟩
      obtain ⟨fin, hfin⟩ : ∃ fin, fin = fineD d.seats x := ⟨_, rfl⟩
      have HOt := Lib.hid hOt
      have Hfin := Lib.hid hfin
      clear hOt hfin
      have HS0 := Lib.hid (rowIn_own (enc := Seat.cells) (fun _ => rfl) (by decide) hst2.seats)
      go_upto_if 39 with fail
      go_cut [14, 15, 16] (fun v14 v15 v16 wx => ∃ p c, v14 = .slice p Ot.length c ∧ v15 = .bool fin ∧ v16 = v16 ∧ Hid (RowIn Seat.cells wx (.slice p Ot.length c) Ot) ∧ Hid (RowKit.Below wr2.heap.size wr2 wx))
      case first =>
        cases t
        · have hg0 : x.give.size = 0 := by have := HT.out; simpa using this
          have hOd : Ot = d.seats := by rw [HOt.out, others_none hg0]
          have hfd : fin = true := by rw [Hfin.out, fine_none hg0]
          go_wp2_with fail
          go_meet
          case rel => exact ⟨ps, cs, by rw [hOd], by rw [hfd], trivial, by rw [hOd]; exact HS0, Lib.hid (Below.refl _ _)⟩
        · have hg1 : ¬ x.give.size = 0 := by have := HT.out; simpa using this
          have HOd : Hid (Ot = d.seats.filter fun y => decide (y ≠ giveOf x)) := Lib.hid (by rw [HOt.out]; unfold othersD; rw [if_neg hg1])
          have Hfd : Hid (fin = decide (giveOf x ∈ d.seats)) := Lib.hid (by rw [Hfin.out]; unfold fineD; rw [decide_eq_false hg1]; rfl)
          have hb3 := below_alloc1 wr2 (.cells #[.int .i64 x.student, .string x.give] 53)
          have hgv : ∀ j, (wr2.alloc (.cells #[.int .i64 x.student, .string x.give] 53)).cell? ⟨wr2.heap.size, j, none⟩ = (#[.int .i64 x.student, .string x.give] : Array Value)[j]? := fun j => Lib.cell_of_heap (heap_alloc_new wr2 _) j
          have hdc3 := (hst2.below hb3).cell
          have chs := hasSeat_any (.slice ps d.seats.length cs) d.seats (giveOf x) _ (HS0.out.below hb3) (by omega)
          go_wp2_with fail
          refine chs.mono ?_
          rintro _ w4 ⟨rfl, hb4⟩
          have hB4 := below_next hb3 hb4
          have hdc4 := (hst2.below hB4).cell
          have hgv4 : ∀ j, w4.cell? ⟨wr2.heap.size, j, none⟩ = (#[.int .i64 x.student, .string x.give] : Array Value)[j]? := fun j => (hb4.cell (p := ⟨wr2.heap.size, j, none⟩) (by simp)).trans (hgv j)
          have cwo := refWithout_any (.slice ps d.seats.length cs) d.seats (giveOf x) w4 (HS0.out.below hB4) (by omega)
          clear chs hgv hdc3 hg1
          go_wp2_with fail
          refine cwo.mono ?_
          rintro _ w5 ⟨p5, c5, rfl, hr5, hb5⟩
          have HB5 := Lib.hid (below_next hB4 hb5)
          have HR5 := Lib.hid hr5
          clear cwo hr5 hb5 hb4 hb3 hB4
          go_wp2_with fail
          go_meet
          case rel => exact ⟨p5, c5, by rw [HOd.out]; simp, by rw [Hfd.out], trivial, by rw [HOd.out]; exact HR5, HB5⟩
      case rest =>
        obtain ⟨p, c, rfl, rfl, _, HO4, HB4⟩ := hcut
        have HST2 := Lib.hid (stepD_named (L := L) (M := M) (most := most) HOt.out Hfin.out)
        have hOl2 : Ot.length ≤ 800 := by rw [HOt.out]; exact Nat.le_trans (others_sub _ _).length_le hdl1
        have hb4 := HB4.out
        have hsW := hst2.below hb4
        have hcW := hsW.cell
        have hsc : ∀ j, wc.cell? ⟨wr.heap.size + 1, j, none⟩ = (#[.int .i64 x.student, .string x.code] : Array Value)[j]? := fun j => Lib.cell_of_heap ((hb4.block _ (lt_of_heap hs2)).trans hs2) j
        have hBwc : RowKit.Below w.heap.size w wc := below_next (below_next (HB2.out.grown HST.out.keep HB2.out.size (fun q hq => by injection hq with hq; omega)) hb2) hb4
        have cft := refFits_any (.slice p1 L.length c1) (.slice pm M.length cm) (.slice p Ot.length c) L M most Ot (seatOf x) wc (HO.out.below hBwc) lo (HW.out.below hBwc) (HM.out.below hBwc) lm HO4.out (by omega)
        clear hBwc hbx2 hdc2
        cases fin
        · have HStep : Hid (dealP L M most (O.take (k + 1)) = if seatOf x ∈ d.waits then d else ⟨d.seats, d.waits ++ [seatOf x]⟩) := Lib.hid (by rw [HSN.out, HST2.out, if_neg (by simp)])
          clear cft
          have cc := hasSeat_any (.slice pw d.waits.length cw) d.waits (seatOf x) wc (rowIn_own (fun _ => rfl) (by decide) hsW.waits) (by omega)
          have HBW := Lib.hid hb4
          go_wp2_with fail
          refine cc.mono ?_
          rintro _ w8 ⟨rfl, hb8⟩
          have HB8 := Lib.hid (below_next HBW.out hb8)
          by_cases hin : seatOf x ∈ d.waits
          · have hd1 : (decide (seatOf x ∈ d.waits)) = true := decide_eq_true hin
            have HN : Hid (dealP L M most (O.take (k + 1)) = d) := Lib.hid (by rw [HStep.out, if_pos hin])
            have hst8 := hst2.below HB8.out
            rw [hd1]
            clear hin hd1 hb8 hcW hsc cc
            go_wp2_with fail
            go_roundw
            case rel => exact ⟨k + 1, _, _, by omega, by go_num, by rw [HN.out]; exact hst8⟩
            case measure => simp [RowKit.intOf]; omega
          · have hd1 : (decide (seatOf x ∈ d.waits)) = false := decide_eq_false hin
            have HN : Hid (dealP L M most (O.take (k + 1)) = ⟨d.seats, d.waits ++ [seatOf x]⟩) := Lib.hid (by rw [HStep.out, if_neg hin])
            have hst8 := hst2.below HB8.out
            have hc8 := hst8.cell
            have hs8 : ∀ j, w8.cell? ⟨wr.heap.size + 1, j, none⟩ = (#[.int .i64 x.student, .string x.code] : Array Value)[j]? := fun j => Lib.cell_of_heap ((HB8.out.block _ (lt_of_heap hs2)).trans hs2) j
            have hb9 : RowKit.Below wr2.heap.size wr2 (w8.alloc (.cells #[.int .i64 x.student, .string x.code] 53)) := HB8.out.alloc HB8.out.size _
            have hst9 := hst2.below hb9
            have hown9 := hst9.waits
            have hlit := rowIn_lit (enc := Seat.cells) (e := 53) w8 [seatOf x] #[.int .i64 x.student, .string x.code] w8.heap.size rfl rfl 1 rfl
            have hsz9 := hst9.size
            rw [hd1]
            clear hin hd1 hb8 hcW hsc cc
            go_wp2_with (at_builtin; refine wpList_append_row seatT rfl (.tmp 76) (.tmp 78) rfl w2.heap.size _ _ d.waits [seatOf x] rfl rfl hown9 hlit (by simp; omega) hsz9 ?_; intro v9 w9 hA9; obtain ⟨p9, c9, rfl⟩ := own_form hA9.own; have hbx9 := hst9.after hA9.grown (fun q hq => (own_lo hown9 hq).1); have hc9 : ∀ j, w9.cell? ⟨db, j, none⟩ = (#[.slice ps d.seats.length cs, .slice pw d.waits.length cw] : Array Value)[j]? := fun j => Lib.cell_of_heap hbx9 j; have hf9 : ∀ j, w9.frozen? ⟨db, j, none⟩ = false := fun j => Lib.frozen_of_heap hbx9 j)
            have hstF := hst2.wait hb9 hA9
            simp only [List.length_append, List.length_singleton] at hstF
            go_roundw
            case rel => exact ⟨k + 1, _, _, by omega, by go_num, by rw [HN.out]; exact hstF⟩
            case measure => simp [RowKit.intOf]; omega
        · go_wp2_with fail
          refine cft.mono ?_
          rintro _ w7 ⟨rfl, hb7⟩
          have hB7 := below_next hb4 hb7
          have HR7 := Lib.hid (HO4.out.below hb7)
          have hsW7 := hst2.below hB7
          clear hb7 cft hcW hsc
          by_cases he : fitsP L M most Ot (seatOf x) = 0
          · have HN : Hid (dealP L M most (O.take (k + 1)) = ⟨Ot ++ [seatOf x], d.waits⟩) := Lib.hid (by rw [HSN.out, HST2.out, if_pos ⟨by trivial, he⟩])
            have HB7 := Lib.hid hB7
            rw [he]
            clear he hb4 hsW
            go_wp2_with fail
            refine dl_r15 db (wr.heap.size + 1) p c (.slice ps d.seats.length cs) (.slice pw d.waits.length cw) Ot (seatOf x) w7 _ hsW7.box ((hB7.block _ (lt_of_heap hs2)).trans hs2) (by have := HST.out.lt; omega) HR7.out (by omega) ?_
            intro u63 u65 u67 u68 u69 p9 c9 wx hg9 hx9 ho9
            have hstF := hst2.seat2 HB7.out hg9 hx9 ho9
            have HSF := Lib.hid hstF
            clear hstF hg9 hx9 ho9 hsW7 hB7
            go_wp2_with fail
            go_roundw
            case rel => exact ⟨k + 1, _, _, by omega, by go_num, by rw [HN.out]; exact HSF.out⟩
            case measure => simp [RowKit.intOf]; omega
          · have HStep : Hid (dealP L M most (O.take (k + 1)) = if seatOf x ∈ d.waits then d else ⟨d.seats, d.waits ++ [seatOf x]⟩) := Lib.hid (by rw [HSN.out, HST2.out, if_neg (fun h => he h.2)])
            have hcW := hsW7.cell
            have hsc : ∀ j, w7.cell? ⟨wr.heap.size + 1, j, none⟩ = (#[.int .i64 x.student, .string x.code] : Array Value)[j]? := fun j => Lib.cell_of_heap ((hB7.block _ (lt_of_heap hs2)).trans hs2) j
            generalize fitsP L M most Ot (seatOf x) = e at he ⊢
            have he2 : (e == 0) = false := by simpa using he
            clear he
            have cc := hasSeat_any (.slice pw d.waits.length cw) d.waits (seatOf x) w7 (rowIn_own (fun _ => rfl) (by decide) hsW7.waits) (by omega)
            have HBW := Lib.hid hB7
            go_wp2_with fail
            refine cc.mono ?_
            rintro _ w8 ⟨rfl, hb8⟩
            have HB8 := Lib.hid (below_next HBW.out hb8)
            by_cases hin : seatOf x ∈ d.waits
            · have hd1 : (decide (seatOf x ∈ d.waits)) = true := decide_eq_true hin
              have HN : Hid (dealP L M most (O.take (k + 1)) = d) := Lib.hid (by rw [HStep.out, if_pos hin])
              have hst8 := hst2.below HB8.out
              rw [hd1]
              clear hin hd1 hb8 hcW hsc cc
              go_wp2_with fail
              go_roundw
              case rel => exact ⟨k + 1, _, _, by omega, by go_num, by rw [HN.out]; exact hst8⟩
              case measure => simp [RowKit.intOf]; omega
            · have hd1 : (decide (seatOf x ∈ d.waits)) = false := decide_eq_false hin
              have HN : Hid (dealP L M most (O.take (k + 1)) = ⟨d.seats, d.waits ++ [seatOf x]⟩) := Lib.hid (by rw [HStep.out, if_neg hin])
              have hst8 := hst2.below HB8.out
              have hc8 := hst8.cell
              have hs8 : ∀ j, w8.cell? ⟨wr.heap.size + 1, j, none⟩ = (#[.int .i64 x.student, .string x.code] : Array Value)[j]? := fun j => Lib.cell_of_heap ((HB8.out.block _ (lt_of_heap hs2)).trans hs2) j
              have hb9 : RowKit.Below wr2.heap.size wr2 (w8.alloc (.cells #[.int .i64 x.student, .string x.code] 53)) := HB8.out.alloc HB8.out.size _
              have hst9 := hst2.below hb9
              have hown9 := hst9.waits
              have hlit := rowIn_lit (enc := Seat.cells) (e := 53) w8 [seatOf x] #[.int .i64 x.student, .string x.code] w8.heap.size rfl rfl 1 rfl
              have hsz9 := hst9.size
              rw [hd1]
              clear hin hd1 hb8 hcW hsc cc
              go_wp2_with (at_builtin; refine wpList_append_row seatT rfl (.tmp 76) (.tmp 78) rfl w2.heap.size _ _ d.waits [seatOf x] rfl rfl hown9 hlit (by simp; omega) hsz9 ?_; intro v9 w9 hA9; obtain ⟨p9, c9, rfl⟩ := own_form hA9.own; have hbx9 := hst9.after hA9.grown (fun q hq => (own_lo hown9 hq).1); have hc9 : ∀ j, w9.cell? ⟨db, j, none⟩ = (#[.slice ps d.seats.length cs, .slice pw d.waits.length cw] : Array Value)[j]? := fun j => Lib.cell_of_heap hbx9 j; have hf9 : ∀ j, w9.frozen? ⟨db, j, none⟩ = false := fun j => Lib.frozen_of_heap hbx9 j)
              have hstF := hst2.wait hb9 hA9
              simp only [List.length_append, List.length_singleton] at hstF
              go_roundw
              case rel => exact ⟨k + 1, _, _, by omega, by go_num, by rw [HN.out]; exact hstF⟩
              case measure => simp [RowKit.intOf]; omega
    · obtain rfl : k = O.length := by omega
      rw [List.take_length] at hst
      have hcell := hst.cell
      have hBw : RowKit.Below w.heap.size w wr := HB2.out.grown hst.keep HB2.out.size (fun q hq => by injection hq with hq; omega)
      have hrb := (hst.keep.block w.heap.size (by omega) (by simp; omega)).trans HX8.out
      have hfr : ∀ j, wr.frozen? ⟨w.heap.size, j, none⟩ = false := fun j => Lib.frozen_of_heap hrb j
      have hrc : ∀ j, wr.cell? ⟨w.heap.size, j, none⟩ = (#[.slice none 0 0, .slice none 0 0] : Array Value)[j]? := fun j => Lib.cell_of_heap hrb j
      have hdl := deal_len (L := L) (met := M) (most := most) O
      have HS := Lib.hid hst
      have hne : ¬ (db = w.heap.size) := by omega
      have lre : w.heap.size < w2.heap.size := by omega
      clear hst
      go_wp2_with fail
      have h := HS.out
      have hg2 := grows_trans (Only.setCell wr w.heap.size 0 (.slice ps (dealP L M most O).seats.length cs) 0) (Only.setCell _ w.heap.size 1 (.slice pw (dealP L M most O).waits.length cw) 0)
      refine bodyPost_ret (v := .agg #[.slice ps (dealP L M most O).seats.length cs, .slice pw (dealP L M most O).waits.length cw]) (results_cell_row (P := Tryz.prog) Tryz.results11 _ _ w.heap.size 45 #[.slice ps (dealP L M most O).seats.length cs, .slice pw (dealP L M most O).waits.length cw] (0, 0) _ rfl ?_ Tryz.underlying45 rfl (by kernel_rfl)) rfl
        ⟨_, A, rfl, HA.out, by rw [HOE.out]; exact DealIn.mk' (rowIn_own (fun _ => rfl) (by decide) (own_set (own_set h.seats lre 0 _) lre 1 _)) (rowIn_own (fun _ => rfl) (by decide) (own_set (own_set h.waits lre 0 _) lre 1 _)) (by omega) (by omega), hBw.grown hg2 hBw.size (fun q hq => by injection hq with hq; subst hq; exact Nat.le_refl _)⟩
      simp [World.setCell, Array.getElem?_modify, hrb]
end Go.Proofs.YteopjiedjnaeiaaGreat
