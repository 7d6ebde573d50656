/- The reference of layer 28: Deal, a region that draws. -/
import Derived.Test.YteopjiedjnaeiaaGreatDgba
import Derived.Deep.DeepCutAuto
import Derived.Laws.BitsLemmas
import Derived.Test.YteopjiedjnaeiaaGreatDgaw
/- slices' symMerge at requests: two sorted segments into one. -/
namespace Go.Proofs.YteopjiedjnaeiaaGreat
open Go Go.Proofs Go.RowKit Go.Maps Go.Sort Go.Lib

theorem swp_flip {α : Type} [Inhabited α] (d : Array α) {i j : Nat} (h : i ≠ j) : swp d i j = swp d j i := by
  unfold swp
  rw [Array.setIfInBounds_comm _ _ h]
/-- An element that moves through a segment. -/
def mvX {α : Type} (P : List α) (v : α) (B R : List α) (t : Nat) : List α := P ++ (B.take t ++ v :: (B.drop t ++ R))
section
variable {α : Type} {P B R : List α} {v z : α} {t : Nat}
theorem mvX_len (ht : t ≤ B.length) : (mvX P v B R t).length = P.length + B.length + 1 + R.length := by
  simp only [mvX, List.length_append, List.length_cons, List.length_take, List.length_drop]; omega
theorem mvX_at (ht : t ≤ B.length) : (mvX P v B R t)[P.length + t]? = some v := by
  unfold mvX
  rw [← List.append_assoc, List.getElem?_append_right (by simp; omega)]
  simp
  rw [show P.length + t - (P.length + min t B.length) = 0 by omega]
  rfl
theorem mvX_next (hz : B[t]? = some z) : (mvX P v B R t)[P.length + t + 1]? = some z := by
  have ht := (List.getElem?_eq_some_iff.1 hz).1
  have e : B.drop t = z :: B.drop (t + 1) := by
    rw [List.drop_eq_getElem_cons ht, (List.getElem?_eq_some_iff.1 hz).2]
  unfold mvX
  rw [e, ← List.append_assoc, List.getElem?_append_right (by simp; omega)]
  simp
  rw [show P.length + t + 1 - (P.length + min t B.length) = 1 by omega]
  rfl
theorem mvX_prev (hz : B[t]? = some z) : (mvX P v B R (t + 1))[P.length + t]? = some z := by
  have ht := (List.getElem?_eq_some_iff.1 hz).1
  unfold mvX
  rw [List.getElem?_append_right (by omega), Nat.add_sub_cancel_left, List.getElem?_append_left (by simp; omega), List.getElem?_take, if_pos (by omega)]
  exact hz
theorem mvX_step [Inhabited α] (hz : B[t]? = some z) : swp (List.toArray (mvX P v B R t)) (P.length + t) (P.length + t + 1) = List.toArray (mvX P v B R (t + 1)) := by
  have ht := (List.getElem?_eq_some_iff.1 hz).1
  have e : B.drop t = z :: B.drop (t + 1) := by
    rw [List.drop_eq_getElem_cons ht, (List.getElem?_eq_some_iff.1 hz).2]
  have e2 : B.take (t + 1) = B.take t ++ [z] := by rw [List.take_add_one, hz]; rfl
  have h := swp_list (P ++ B.take t) [] (B.drop (t + 1) ++ R) v z
  have l1 : (P ++ B.take t).length = P.length + t := by simp; omega
  rw [l1] at h
  simp only [List.length_nil, Nat.add_zero, List.nil_append] at h
  unfold mvX
  rw [e, e2]
  simp only [List.append_assoc, List.cons_append, List.nil_append] at h ⊢
  exact h
theorem mvX_back [Inhabited α] (hz : B[t]? = some z) : swp (List.toArray (mvX P v B R (t + 1))) (P.length + t + 1) (P.length + t) = List.toArray (mvX P v B R t) := by
  rw [← mvX_step hz, swp_flip _ (by omega)]
  have hl : (mvX P v B R t).length = P.length + B.length + 1 + R.length := mvX_len (Nat.le_of_lt (List.getElem?_eq_some_iff.1 hz).1)
  have ht := (List.getElem?_eq_some_iff.1 hz).1
  generalize mvX P v B R t = L at hl
  apply Array.ext
  · rw [size_swp, size_swp]
  · intro k h1 h2
    rw [← getElem!_pos (swp (swp (List.toArray L) (P.length + t) (P.length + t + 1)) (P.length + t) (P.length + t + 1)) k h1, ← getElem!_pos (List.toArray L) k h2]
    have s1 : P.length + t < (List.toArray L).size := by rw [List.size_toArray]; omega
    have s2 : P.length + t + 1 < (List.toArray L).size := by rw [List.size_toArray]; omega
    have s3 : P.length + t < (swp (List.toArray L) (P.length + t) (P.length + t + 1)).size := by rw [size_swp]; exact s1
    have s4 : P.length + t + 1 < (swp (List.toArray L) (P.length + t) (P.length + t + 1)).size := by rw [size_swp]; exact s2
    by_cases e1 : k = P.length + t
    · subst e1
      rw [swp_left _ _ _ s3 (by omega), swp_right _ _ _ s2]
    · by_cases e2 : k = P.length + t + 1
      · subst e2
        rw [swp_right _ _ _ s4, swp_left _ _ _ s1 (by omega)]
      · rw [swp_other _ _ _ _ e1 e2, swp_other _ _ _ _ e1 e2]
theorem srt_get? {lt : α → α → Bool} (h : SWO lt) {l : List α} (hs : Srt lt l) {i j : Nat} {x y : α} (hij : i ≤ j) (hx : l[i]? = some x) (hy : l[j]? = some y) : lt y x = false := by
  obtain ⟨h1, rfl⟩ := List.getElem?_eq_some_iff.1 hx
  obtain ⟨h2, rfl⟩ := List.getElem?_eq_some_iff.1 hy
  exact srt_get hs hij h2 h
end
abbrev ltB : Req → Req → Bool := ltOf cmpB
def SymPost (W0 : World) (g : Nat) (P A B S : List Req) (e : Ending) (w' : World) : Prop := e = .returned (.tuple #[]) ∧ ∃ C, Row W0 g (P ++ (C ++ S)) w' ∧ C.Perm (A ++ B) ∧ Srt ltB C
set_option maxHeartbeats 4000000 in
set_option maxRecDepth 100000 in
theorem sym_one (W0 : World) (g cap n : Nat) (d0 : Array Req) (hH : HoldsK encR 9 W0 g 0 d0) (hblk : g < W0.heap.size) (hsz : n ≤ 1000000) (P B S : List Req) (v : Req) (a m b : Nat) (hB : 0 < B.length) (ha : P.length = a) (hm : a + 1 = m) (hb : m + B.length = b) (sB : Srt ltB B) (w : World) (hR : Row W0 g (P ++ ([v] ++ (B ++ S))) w) (hd : (P ++ ([v] ++ (B ++ S))).length = d0.size) (hn : d0.size = n) :
    Calls Tryz.prog 66 #[.slice (some ⟨g, 0, none⟩) n cap, .int .i64 a, .int .i64 m, .int .i64 b, .func (.func 22) #[] #[]] w (SymPost W0 g P [v] B S) := by
  have hl : a + 1 + B.length + S.length = n := by simp only [List.length_append, List.length_singleton] at hd; omega
  have hwm : IntKind.i64.wrap ((m : Int) - (a : Int)) = 1 := by rw [IntWalk.i64_in _ (by omega)]; omega
  have HSB := Lib.hid sB
  clear sB
  go_enter Tryz.func66, Tryz.ntmps66
  go_wp2_with fail
  clear hwm
  go_loopw [10, 11] (fun u v' wr => ∃ x y : Nat, u = .int .i64 x ∧ v' = .int .i64 y ∧ m ≤ x ∧ x ≤ y ∧ y ≤ b ∧ Hid (∀ k z, B[k]? = some z → m + k < x → ltB z v = true) ∧ Hid (∀ k z, B[k]? = some z → y ≤ m + k → ltB z v = false) ∧ Row W0 g (P ++ ([v] ++ (B ++ S))) wr) (fun u v' _ => (RowKit.intOf v').toNat - (RowKit.intOf u).toNat)
  case atStart => exact ⟨m, b, rfl, rfl, Nat.le_refl _, by omega, Nat.le_refl _, Lib.hid (fun k z _ h => by omega), Lib.hid (fun k z hz h => by have := (List.getElem?_eq_some_iff.1 hz).1; omega), hR⟩
  case round =>
    clear hR
    obtain ⟨x, y, rfl, rfl, hmx, hxy, hyb, HL, HG, hR⟩ := hrel
    by_cases hlt : x < y
    · have hlt' : (x : Int) < (y : Int) := by omega
      obtain ⟨h, hh0⟩ : ∃ h, (x + y) / 2 = h := ⟨_, rfl⟩
      have hh : ((x : Int) + (y : Int)) / 2 = (h : Int) := by omega
      have hxh : x ≤ h := by omega
      have hhy : h < y := by omega
      obtain ⟨z, hz⟩ : ∃ z, B[h - m]? = some z := ⟨_, List.getElem?_eq_getElem (by omega)⟩
      have hXh : (P ++ ([v] ++ (B ++ S)))[h]? = some z := by
        rw [List.getElem?_append_right (by omega), List.getElem?_append_right (by simp; omega), List.getElem?_append_left (by simp; omega)]
        simp only [List.length_singleton]
        rw [show h - P.length - 1 = h - m by omega]; exact hz
      have hXa : (P ++ ([v] ++ (B ++ S)))[a]? = some v := by
        rw [List.getElem?_append_right (by omega), ha, Nat.sub_self]; rfl
      have HZ := Lib.hid hz
      clear hh0 hz
      go_wp2_with fail
      refine sx_t5 W0 d0 (P ++ ([v] ++ (B ++ S))) g n cap h a z v wr _ hH hblk hR hd (hd.trans hn) hXh hXa (by omega) (by omega) ?_
      intros
      rename_i wx hwx
      have HW := Lib.hid hwx
      clear hXh hXa hR hwx
      obtain ⟨bt, hbt⟩ : ∃ bt, decide (cmpB z v < 0) = bt := ⟨_, rfl⟩
      have hlt1 : ltB z v = bt := hbt
      rw [hbt]
      clear hbt
      cases bt
      rotate_left 1
      · skip
        have HN : Hid (∀ k z', B[k]? = some z' → m + k < h + 1 → ltB z' v = true) := Lib.hid fun k z' hk hlt => le_lt swoB (srt_get? swoB HSB.out (by omega) hk HZ.out) hlt1
        clear hlt1
        go_wp2_with fail
        go_roundw
        case rel => exact ⟨h + 1, y, by go_num, rfl, by omega, by omega, hyb, HN, HG, HW.out⟩
        case measure => simp [RowKit.intOf]; omega
      · skip
        have HN : Hid (∀ k z', B[k]? = some z' → h ≤ m + k → ltB z' v = false) := Lib.hid fun k z' hk hlt => swoB.ntrans z' z v (srt_get? swoB HSB.out (by omega) HZ.out hk) hlt1
        clear hlt1
        go_wp2_with fail
        go_roundw
        case rel => exact ⟨x, h, rfl, rfl, by omega, by omega, by omega, HL, HN, HW.out⟩
        case measure => simp [RowKit.intOf]; omega
    · have hlt' : ¬ (x : Int) < (y : Int) := by omega
      obtain ⟨e, he⟩ : ∃ e, x - 1 = e := ⟨_, rfl⟩
      have hw1 : IntKind.i64.wrap ((x : Int) - 1) = (e : Int) := by rw [IntWalk.i64_in _ (by omega)]; omega
      obtain ⟨B1, B2, hB12, hl1⟩ : ∃ B1 B2, B = B1 ++ B2 ∧ B1.length = x - m := ⟨B.take (x - m), B.drop (x - m), (List.take_append_drop _ B).symm, by simp; omega⟩
      have HB12 := Lib.hid hB12
      have hin : Row W0 g (mvX P v B1 (B2 ++ S) 0) wr := by
        unfold mvX
        rw [hB12] at hR
        simpa using hR
      have h1 : Hid (∀ z ∈ B1, ltB z v = true) := Lib.hid fun z hz => by
        obtain ⟨k, hk⟩ := List.mem_iff_getElem?.1 hz
        have hkl := (List.getElem?_eq_some_iff.1 hk).1
        exact HL.out k z (by rw [hB12, List.getElem?_append_left hkl]; exact hk) (by omega)
      have h2 : Hid (∀ z ∈ B2, ltB z v = false) := Lib.hid fun z hz => by
        obtain ⟨k, hk⟩ := List.mem_iff_getElem?.1 hz
        exact HG.out (B1.length + k) z (by rw [hB12, List.getElem?_append_right (by omega), Nat.add_sub_cancel_left]; exact hk) (by omega)
      have hbl : B1.length + B2.length = B.length := by rw [hB12]; simp
      have hea : e = a + B1.length := by omega
      clear hR hB12 HL HG he
      go_wp2_with fail
      clear hlt'
      go_loopw [13] (fun u wr => ∃ t : Nat, t ≤ B1.length ∧ u = .int .i64 ((a + t : Nat) : Int) ∧ Row W0 g (mvX P v B1 (B2 ++ S) t) wr) (fun u _ => e - (RowKit.intOf u).toNat)
      case atStart => exact ⟨0, Nat.zero_le _, rfl, hin⟩
      case round =>
        clear hin
        obtain ⟨t, ht, rfl, hR⟩ := hrel
        obtain ⟨k, hk⟩ : ∃ k, a + t = k := ⟨_, rfl⟩
        rw [hk]
        by_cases htl : t < B1.length
        · have hke : (k : Int) < (e : Int) := by omega
          obtain ⟨z, hz⟩ : ∃ z, B1[t]? = some z := ⟨_, List.getElem?_eq_getElem htl⟩
          have hml : (mvX P v B1 (B2 ++ S) t).length = d0.size := by rw [mvX_len ht]; simp; omega
          have hx1 : (mvX P v B1 (B2 ++ S) t)[k]? = some v := by rw [← hk, ← ha]; exact mvX_at ht
          have hy1 : (mvX P v B1 (B2 ++ S) t)[k + 1]? = some z := by rw [← hk, ← ha]; exact mvX_next hz
          obtain ⟨f1, f2, f3, f4⟩ := row_facts hH hblk hR hml hx1 hy1
          have hsw := row_swap hblk hR hx1 hy1
          have hst := mvX_step (P := P) (v := v) (R := B2 ++ S) hz
          rw [ha, hk] at hst
          rw [hst] at hsw
          go_wp2_with fail
          refine sx_up g n cap k (k + 1) v z wr _ f1 f2 f3 f4 (by omega) (by omega) (by rw [IntWalk.i64_in _ (by omega)]; omega) ?_
          intros
          rename_i wx hwx
          have hRn : Row W0 g (mvX P v B1 (B2 ++ S) (t + 1)) wx := by
            unfold Row; rw [hwx]; exact hsw
          clear f1 f2 f3 f4 hsw hst hwx hx1 hy1 hz
          go_wp2_with fail
          go_roundw
          case rel => exact ⟨t + 1, by omega, by rw [show a + (t + 1) = k + 1 by omega]; go_num, hRn⟩
          case measure => simp [RowKit.intOf]; omega
        · have hke : ¬ (k : Int) < (e : Int) := by omega
          have hF : Row W0 g (P ++ ((B1 ++ v :: B2) ++ S)) wr := by
            have : t = B1.length := by omega
            subst this
            unfold mvX at hR
            simpa using hR
          clear hR
          go_wp2_with fail
          refine ⟨rfl, _, results_none rfl _ _ _, rfl, B1 ++ v :: B2, hF, ?_, ?_⟩
          · rw [HB12.out]; exact List.perm_middle
          · exact srt_left swoB (by rw [← HB12.out]; exact HSB.out) h1.out h2.out
set_option maxHeartbeats 4000000 in
set_option maxRecDepth 100000 in
theorem sym_last (W0 : World) (g cap n : Nat) (d0 : Array Req) (hH : HoldsK encR 9 W0 g 0 d0) (hblk : g < W0.heap.size) (hsz : n ≤ 1000000) (P A S : List Req) (v : Req) (a m b : Nat) (hA : 2 ≤ A.length) (ha : P.length = a) (hm : a + A.length = m) (hb : m + 1 = b) (sA : Srt ltB A) (w : World) (hR : Row W0 g (P ++ (A ++ ([v] ++ S))) w) (hd : (P ++ (A ++ ([v] ++ S))).length = d0.size) (hn : d0.size = n) :
    Calls Tryz.prog 66 #[.slice (some ⟨g, 0, none⟩) n cap, .int .i64 a, .int .i64 m, .int .i64 b, .func (.func 22) #[] #[]] w (SymPost W0 g P A [v] S) := by
  have hl : a + A.length + 1 + S.length = n := by simp only [List.length_append, List.length_singleton] at hd; omega
  obtain ⟨la, hla⟩ : ∃ la, m - a = la := ⟨_, rfl⟩
  have hwm : IntKind.i64.wrap ((m : Int) - (a : Int)) = (la : Int) := by rw [IntWalk.i64_in _ (by omega)]; omega
  have hne : ((la : Int) == 1) = false := by rw [beq_eq_false_iff_ne]; omega
  have hwb : IntKind.i64.wrap ((b : Int) - (m : Int)) = 1 := by rw [IntWalk.i64_in _ (by omega)]; omega
  have HSA := Lib.hid sA
  clear sA hla
  go_enter Tryz.func66, Tryz.ntmps66
  go_wp2_with fail
  clear hwm hne hwb
  go_loopw [14, 15] (fun u v' wr => ∃ x y : Nat, u = .int .i64 x ∧ v' = .int .i64 y ∧ a ≤ x ∧ x ≤ y ∧ y ≤ m ∧ Hid (∀ k z, A[k]? = some z → a + k < x → ltB v z = false) ∧ Hid (∀ k z, A[k]? = some z → y ≤ a + k → ltB v z = true) ∧ Row W0 g (P ++ (A ++ ([v] ++ S))) wr) (fun u v' _ => (RowKit.intOf v').toNat - (RowKit.intOf u).toNat)
  case atStart => exact ⟨a, m, rfl, rfl, Nat.le_refl _, by omega, Nat.le_refl _, Lib.hid (fun k z _ h => by omega), Lib.hid (fun k z hz h => by have := (List.getElem?_eq_some_iff.1 hz).1; omega), hR⟩
  case round =>
    clear hR
    obtain ⟨x, y, rfl, rfl, hax, hxy, hym, HL, HG, hR⟩ := hrel
    by_cases hlt : x < y
    · have hlt' : (x : Int) < (y : Int) := by omega
      obtain ⟨h, hh0⟩ : ∃ h, (x + y) / 2 = h := ⟨_, rfl⟩
      have hh : ((x : Int) + (y : Int)) / 2 = (h : Int) := by omega
      have hxh : x ≤ h := by omega
      have hhy : h < y := by omega
      obtain ⟨z, hz⟩ : ∃ z, A[h - a]? = some z := ⟨_, List.getElem?_eq_getElem (by omega)⟩
      have hXh : (P ++ (A ++ ([v] ++ S)))[h]? = some z := by
        rw [List.getElem?_append_right (by omega), List.getElem?_append_left (by omega), ha]; exact hz
      have hXm : (P ++ (A ++ ([v] ++ S)))[m]? = some v := by
        rw [List.getElem?_append_right (by omega), List.getElem?_append_right (by omega), List.getElem?_append_left (by simp; omega), show m - P.length - A.length = 0 by omega]
        rfl
      have HZ := Lib.hid hz
      clear hh0 hz
      go_wp2_with fail
      refine sx_t17 W0 d0 (P ++ (A ++ ([v] ++ S))) g n cap m h v z wr _ hH hblk hR hd (hd.trans hn) hXm hXh (by omega) (by omega) ?_
      intros
      rename_i wx hwx
      have HW := Lib.hid hwx
      clear hXh hXm hR hwx
      obtain ⟨bt, hbt⟩ : ∃ bt, decide (cmpB v z < 0) = bt := ⟨_, rfl⟩
      have hlt1 : ltB v z = bt := hbt
      rw [hbt]
      clear hbt
      cases bt
      · have HN : Hid (∀ k z', A[k]? = some z' → a + k < h + 1 → ltB v z' = false) := Lib.hid fun k z' hk hlt => swoB.ntrans v z z' hlt1 (srt_get? swoB HSA.out (by omega) hk HZ.out)
        clear hlt1
        go_wp2_with fail
        go_roundw
        case rel => exact ⟨h + 1, y, by go_num, rfl, by omega, by omega, hym, HN, HG, HW.out⟩
        case measure => simp [RowKit.intOf]; omega
      · have HN : Hid (∀ k z', A[k]? = some z' → h ≤ a + k → ltB v z' = true) := Lib.hid fun k z' hk hlt => lt_le swoB hlt1 (srt_get? swoB HSA.out (by omega) HZ.out hk)
        clear hlt1
        go_wp2_with fail
        go_roundw
        case rel => exact ⟨x, h, rfl, rfl, by omega, by omega, by omega, HL, HN, HW.out⟩
        case measure => simp [RowKit.intOf]; omega
    · have hlt' : ¬ (x : Int) < (y : Int) := by omega
      obtain ⟨A1, A2, hA12, hl1⟩ : ∃ A1 A2, A = A1 ++ A2 ∧ A1.length = x - a := ⟨A.take (x - a), A.drop (x - a), (List.take_append_drop _ A).symm, by simp; omega⟩
      have HA12 := Lib.hid hA12
      have hal : A1.length + A2.length = A.length := by rw [hA12]; simp
      have hPl : (P ++ A1).length = x := by simp; omega
      have hin : Row W0 g (mvX (P ++ A1) v A2 S A2.length) wr := by
        unfold mvX
        rw [hA12] at hR
        simpa using hR
      have h1 : Hid (∀ z ∈ A1, ltB v z = false) := Lib.hid fun z hz => by
        obtain ⟨k, hk⟩ := List.mem_iff_getElem?.1 hz
        have hkl := (List.getElem?_eq_some_iff.1 hk).1
        exact HL.out k z (by rw [hA12, List.getElem?_append_left hkl]; exact hk) (by omega)
      have h2 : Hid (∀ z ∈ A2, ltB v z = true) := Lib.hid fun z hz => by
        obtain ⟨k, hk⟩ := List.mem_iff_getElem?.1 hz
        exact HG.out (A1.length + k) z (by rw [hA12, List.getElem?_append_right (by omega), Nat.add_sub_cancel_left]; exact hk) (by omega)
      have hma : m = x + A2.length := by omega
      clear hR hA12 HL HG
      go_wp2_with fail
      clear hlt'
      go_loopw [17] (fun u wr => ∃ t : Nat, t ≤ A2.length ∧ u = .int .i64 ((x + t : Nat) : Int) ∧ Row W0 g (mvX (P ++ A1) v A2 S t) wr) (fun u _ => (RowKit.intOf u).toNat)
      case atStart => exact ⟨A2.length, Nat.le_refl _, by congr 1, hin⟩
      case round =>
        clear hin
        obtain ⟨t, ht, rfl, hR⟩ := hrel
        cases t with
        | succ t =>
          obtain ⟨q, hq⟩ : ∃ q, x + t = q := ⟨_, rfl⟩
          rw [show x + (t + 1) = q + 1 by omega]
          have hke : (x : Int) < (q : Int) + 1 := by omega
          obtain ⟨z, hz⟩ : ∃ z, A2[t]? = some z := ⟨_, List.getElem?_eq_getElem (by omega)⟩
          have hml : (mvX (P ++ A1) v A2 S (t + 1)).length = d0.size := by rw [mvX_len ht]; simp; omega
          have hx1 : (mvX (P ++ A1) v A2 S (t + 1))[q + 1]? = some v := by
            have := mvX_at (P := P ++ A1) (v := v) (R := S) ht
            rwa [hPl, show x + (t + 1) = q + 1 by omega] at this
          have hy1 : (mvX (P ++ A1) v A2 S (t + 1))[q]? = some z := by
            have := mvX_prev (P := P ++ A1) (v := v) (R := S) hz
            rwa [hPl, hq] at this
          obtain ⟨f1, f2, f3, f4⟩ := row_facts hH hblk hR hml hx1 hy1
          have hsw := row_swap hblk hR hx1 hy1
          have hst := mvX_back (P := P ++ A1) (v := v) (R := S) hz
          rw [hPl, hq] at hst
          rw [hst] at hsw
          obtain ⟨k, hk⟩ : ∃ k, q + 1 = k := ⟨_, rfl⟩
          rw [hk] at f2 f3 f4 hsw ⊢
          have hke2 : (x : Int) < (k : Int) := by omega
          clear hke
          go_wp2_with fail
          refine sx_down g n cap k q v z wr _ f1 f2 f3 f4 (by omega) (by omega) (by rw [IntWalk.i64_in _ (by omega)]; omega) ?_
          intros
          rename_i wx hwx
          have hRn : Row W0 g (mvX (P ++ A1) v A2 S t) wx := by
            unfold Row; rw [hwx]; exact hsw
          have hw2 : IntKind.i64.wrap ((k : Int) - 1) = (q : Int) := by rw [IntWalk.i64_in _ (by omega)]; omega
          clear f1 f2 f3 f4 hsw hst hwx hx1 hy1 hz
          go_wp2_with fail
          go_roundw
          case rel => exact ⟨t, by omega, by rw [hq], hRn⟩
          case measure => simp [RowKit.intOf]; omega
        | zero =>
          rw [Nat.add_zero]
          have hke : ¬ (x : Int) < (x : Int) := by omega
          have hF : Row W0 g (P ++ ((A1 ++ v :: A2) ++ S)) wr := by
            unfold mvX at hR
            simpa using hR
          clear hR
          go_wp2_with fail
          refine ⟨rfl, _, results_none rfl _ _ _, rfl, A1 ++ v :: A2, hF, ?_, ?_⟩
          · rw [HA12.out]
            exact (List.perm_middle.trans (List.perm_append_singleton v (A1 ++ A2)).symm)
          · exact srt_right swoB (by rw [← HA12.out]; exact HSA.out) h1.out h2.out
end Go.Proofs.YteopjiedjnaeiaaGreat
namespace Go.Proofs.YteopjiedjnaeiaaGreat
open Go Go.Proofs Go.RowKit Go.Maps Go.Sort Go.Lib

theorem par_put {P : Program} {ops : Array Oper} {Q : Exit → Act → World → Prop} {i : Nat} {K : Act → World → Prop} {a : Act} {w : World} (oi : Oper) (w' : World) (hi : ops[i]? = some oi) (hw : Region.wanted oi (yielded ops a.tmps) = true) (hr : (execOp a.eval oi).run P w = .ok .skip w') (h : K (a.put oi.dst undef) w') : wpOp P ops Q i K a w :=
  par_op oi hi hw (by unfold Oper.wp; rw [hr, Oper.upon_skip]; exact h)

theorem sb_at {W w : World} {bs bd : Nat} {u v : Value} {t : TypeId} (h : W.heap[bs]? = some (.cells #[u, v] t (0, 0))) (hne : bs ≠ bd) (hS : W.grownBy w (some bd)) : w.rangeAt bs 0 [u, v] := fun j x hj => by
  rw [Nat.zero_add, Lib.cell_of_heap ((hS.block bs (lt_of_heap h) (fun e => hne (Option.some.inj e))).trans h)]
  simpa using hj
set_option maxHeartbeats 16000000 in
set_option maxRecDepth 100000 in
theorem dl_r15 {s0 s1 s2 s3 s4 s5 s6 s7 s8 s10 s11 s12 s15 s16 s17 s18 s19 s20 s21 s22 s23 s24 s25 s26 s27 s28 s29 s30 s31 s32 s33 s34 s35 s36 s37 s38 s39 s40 s41 s42 s43 s44 s45 s46 s47 s48 s49 s50 s51 s52 s53 s54 s55 s56 s57 s58 s59 s60 s61 s62 s63 s64 s65 s66 s67 s68 s69 s70 s71 s72 s73 s74 s75 s76 s77 s78 s79 s80 s81 : Value} (bd bs : Nat) (po : Option Addr) (co : Nat) (sv wv : Value) (X : List Seat) (s : Seat) (W : World) (Q : Exit → Act → World → Prop) (hx : W.heap[bd]? = some (.cells #[sv, wv] 45 (0, 0))) (hs : W.heap[bs]? = some (.cells #[.int .i64 s.student, .string s.code] 53 (0, 0))) (hne : bs ≠ bd) (hr : RowIn Seat.cells W (.slice po X.length co) X) (lX : X.length ≤ 100000)
    (hQ : ∀ (u63 u65 u67 u68 u69 : Value) (p : Option Addr) (c : Nat) (wx : World), W.grownBy wx (some bd) → wx.heap[bd]? = some (.cells #[.slice p (X ++ [s]).length c, wv] 45 (0, 0)) → wx.ownsRow W.heap.size 53 2 (.slice p (X ++ [s]).length c) (X ++ [s]).length (flatE Seat.cells (X ++ [s])) → Q .normal ⟨List.toArray (s0 :: s1 :: s2 :: s3 :: s4 :: s5 :: s6 :: s7 :: s8 :: .pointer (some ⟨bd, 0, none⟩) :: s10 :: s11 :: s12 :: .pointer (some ⟨bs, 0, none⟩) :: .slice po X.length co :: s15 :: s16 :: s17 :: s18 :: s19 :: s20 :: s21 :: s22 :: s23 :: s24 :: s25 :: s26 :: s27 :: s28 :: s29 :: s30 :: s31 :: s32 :: s33 :: s34 :: s35 :: s36 :: s37 :: s38 :: s39 :: s40 :: s41 :: s42 :: s43 :: s44 :: s45 :: s46 :: s47 :: s48 :: s49 :: s50 :: s51 :: s52 :: s53 :: s54 :: s55 :: s56 :: s57 :: s58 :: s59 :: s60 :: s61 :: s62 :: u63 :: .slice po X.length co :: u65 :: .agg #[.int .i64 s.student, .string s.code] :: u67 :: u68 :: u69 :: s70 :: s71 :: s72 :: s73 :: s74 :: s75 :: s76 :: s77 :: s78 :: s79 :: s80 :: s81 :: []), []⟩ wx) :
    (regionOf Tryz.f11 15).wp Tryz.prog Q ⟨List.toArray (s0 :: s1 :: s2 :: s3 :: s4 :: s5 :: s6 :: s7 :: s8 :: .pointer (some ⟨bd, 0, none⟩) :: s10 :: s11 :: s12 :: .pointer (some ⟨bs, 0, none⟩) :: .slice po X.length co :: s15 :: s16 :: s17 :: s18 :: s19 :: s20 :: s21 :: s22 :: s23 :: s24 :: s25 :: s26 :: s27 :: s28 :: s29 :: s30 :: s31 :: s32 :: s33 :: s34 :: s35 :: s36 :: s37 :: s38 :: s39 :: s40 :: s41 :: s42 :: s43 :: s44 :: s45 :: s46 :: s47 :: s48 :: s49 :: s50 :: s51 :: s52 :: s53 :: s54 :: s55 :: s56 :: s57 :: s58 :: s59 :: s60 :: s61 :: s62 :: s63 :: s64 :: s65 :: s66 :: s67 :: s68 :: s69 :: s70 :: s71 :: s72 :: s73 :: s74 :: s75 :: s76 :: s77 :: s78 :: s79 :: s80 :: s81 :: []), []⟩ W := by
  refine of_onlyN (K := Q .normal) ?_ (fun _ _ h => h)
  generalize Q .normal = K at hQ ⊢
  have HQ := Lib.hid hQ; clear hQ
  conv => arg 2; whnf
  have hS0 : W.grownBy W.drew (some bd) := below_grows (Below.refl _ W).drew
  have HR := Lib.hid hr
  clear hr
  refine wp_region_par (S := fun w => W.grownBy w (some bd)) (I := fun L' a w => ∃ u63 u65 u67 u68 u69 : Value, a = ⟨List.toArray (s0 :: s1 :: s2 :: s3 :: s4 :: s5 :: s6 :: s7 :: s8 :: .pointer (some ⟨bd, 0, none⟩) :: s10 :: s11 :: s12 :: .pointer (some ⟨bs, 0, none⟩) :: .slice po X.length co :: s15 :: s16 :: s17 :: s18 :: s19 :: s20 :: s21 :: s22 :: s23 :: s24 :: s25 :: s26 :: s27 :: s28 :: s29 :: s30 :: s31 :: s32 :: s33 :: s34 :: s35 :: s36 :: s37 :: s38 :: s39 :: s40 :: s41 :: s42 :: s43 :: s44 :: s45 :: s46 :: s47 :: s48 :: s49 :: s50 :: s51 :: s52 :: s53 :: s54 :: s55 :: s56 :: s57 :: s58 :: s59 :: s60 :: s61 :: s62 :: u63 :: .slice po X.length co :: u65 :: .agg #[.int .i64 s.student, .string s.code] :: u67 :: u68 :: u69 :: s70 :: s71 :: s72 :: s73 :: s74 :: s75 :: s76 :: s77 :: s78 :: s79 :: s80 :: s81 :: []), []⟩ ∧ (W.grownBy w (some bd)) ∧ (L'.getD 0 false = true → L'.getD 2 false = false → Laid W.heap.size w (fun b => .slice (some ⟨b, 0, none⟩) 0 0) (.cells #[] 53 (0, 0)) u63) ∧ (L'.getD 2 false = true → L'.getD 5 false = false → w.ownsRow W.heap.size 53 2 u65 X.length (flatE Seat.cells X)) ∧ (L'.getD 4 false = true → L'.getD 5 false = false → Laid W.heap.size w (fun b => .slice (some ⟨b, 0, none⟩) 1 1) (.cells #[.int .i64 s.student, .string s.code] 53 (0, 0)) u67) ∧ (L'.getD 5 false = true → L'.getD 7 false = false → w.ownsRow W.heap.size 53 2 u68 (X ++ [s]).length (flatE Seat.cells (X ++ [s]))) ∧ (L'.getD 6 false = true → u69 = .pointer (some ⟨bd, 0, none⟩)) ∧ (L'.getD 7 false = true → ∃ p c, w.heap[bd]? = some (.cells #[.slice p (X ++ [s]).length c, wv] 45 (0, 0)) ∧ w.ownsRow W.heap.size 53 2 (.slice p (X ++ [s]).length c) (X ++ [s]).length (flatE Seat.cells (X ++ [s]))) ∧ (L'.getD 7 false = false → RowKit.Below W.heap.size W w)) (pre := fun i L' => L'.size == 8 && ((i == 0 && !L'.getD 0 false && !L'.getD 2 false && !L'.getD 5 false && !L'.getD 6 false && !L'.getD 7 false) || (i == 2 && L'.getD 0 false && !L'.getD 2 false && !L'.getD 5 false && !L'.getD 6 false && !L'.getD 7 false) || (i == 4 && !L'.getD 4 false && !L'.getD 5 false && !L'.getD 6 false && !L'.getD 7 false) || (i == 5 && L'.getD 2 false && L'.getD 4 false && !L'.getD 5 false && !L'.getD 6 false && !L'.getD 7 false) || (i == 6 && L'.getD 5 false && !L'.getD 6 false && !L'.getD 7 false) || (i == 7 && L'.getD 5 false && L'.getD 6 false && L'.getD 0 false && L'.getD 2 false && L'.getD 4 false && !L'.getD 7 false))) (fin := fun L' => L'.getD 7 false) [1, 3] 6 (by kernel_rfl) (by kernel_rfl) (by kernel_rfl) (by kernel_rfl) (by decide) hS0 ?_ ?_ ?_
  · intro i L' a w hp hI
    obtain ⟨u63, u65, u67, u68, u69, rfl, hSw, hP0, hP2, hP4, hP5, hP6, hP7, hN⟩ := hI
    simp only [Bool.and_eq_true, Bool.or_eq_true, beq_iff_eq, Bool.not_eq_true'] at hp
    obtain ⟨hsz, hp⟩ := hp
    rcases hp with (((((⟨⟨⟨⟨⟨rfl, gn0⟩, gn2⟩, gn5⟩, gn6⟩, gn7⟩ | ⟨⟨⟨⟨⟨rfl, gd0⟩, gn2⟩, gn5⟩, gn6⟩, gn7⟩) | ⟨⟨⟨⟨rfl, gn4⟩, gn5⟩, gn6⟩, gn7⟩) | ⟨⟨⟨⟨⟨rfl, gd2⟩, gd4⟩, gn5⟩, gn6⟩, gn7⟩) | ⟨⟨⟨rfl, gd5⟩, gn6⟩, gn7⟩) | ⟨⟨⟨⟨⟨⟨rfl, gd5⟩, gd6⟩, gd0⟩, gd2⟩, gd4⟩, gn7⟩)
    · have g0 : (L'.setIfInBounds 0 true).getD 0 false = true := by rw [up_set, if_pos ⟨rfl, by omega⟩]
      have g2 : (L'.setIfInBounds 0 true).getD 2 false = L'.getD 2 false := by rw [up_set, if_neg (by omega)]
      have g4 : (L'.setIfInBounds 0 true).getD 4 false = L'.getD 4 false := by rw [up_set, if_neg (by omega)]
      have g5 : (L'.setIfInBounds 0 true).getD 5 false = L'.getD 5 false := by rw [up_set, if_neg (by omega)]
      have g6 : (L'.setIfInBounds 0 true).getD 6 false = L'.getD 6 false := by rw [up_set, if_neg (by omega)]
      have g7 : (L'.setIfInBounds 0 true).getD 7 false = L'.getD 7 false := by rw [up_set, if_neg (by omega)]
      have hb : RowKit.Below w.heap.size w (w.alloc (.cells #[] 53)) := below_alloc1 _ _
      have hSn := grows_trans hSw (below_grows hb)
      refine par_run ⟨some 63, _, _, _, _, _⟩ (.slice (some ⟨w.heap.size, 0, none⟩) 0 0) (w.alloc (.cells #[] 53)) rfl (by rfl) (by go_simp) ?_
      exact ⟨hSn, (.slice (some ⟨w.heap.size, 0, none⟩) 0 0), (u65), (u67), (u68), (u69), by simp only [Act.put, List.setIfInBounds_toArray, List.set_cons_zero, List.set_cons_succ], hSn, fun _ _ => Laid.new w _ _ _ hSw.size, by rw [g2, g5]; exact fun e e2 => absurd (e.symm.trans gn2) (by decide), by rw [g4, g5]; exact fun e e2 => (hP4 e e2).below hb, by rw [g5, g7]; exact fun e e2 => absurd (e.symm.trans gn5) (by decide), by rw [g6]; exact fun e => absurd (e.symm.trans gn6) (by decide), by rw [g7]; exact fun e => absurd (e.symm.trans gn7) (by decide), by rw [g7]; exact fun e => below_next (hN e) hb⟩
    · have g0 : (L'.setIfInBounds 2 true).getD 0 false = L'.getD 0 false := by rw [up_set, if_neg (by omega)]
      have g2 : (L'.setIfInBounds 2 true).getD 2 false = true := by rw [up_set, if_pos ⟨rfl, by omega⟩]
      have g4 : (L'.setIfInBounds 2 true).getD 4 false = L'.getD 4 false := by rw [up_set, if_neg (by omega)]
      have g5 : (L'.setIfInBounds 2 true).getD 5 false = L'.getD 5 false := by rw [up_set, if_neg (by omega)]
      have g6 : (L'.setIfInBounds 2 true).getD 6 false = L'.getD 6 false := by rw [up_set, if_neg (by omega)]
      have g7 : (L'.setIfInBounds 2 true).getD 7 false = L'.getD 7 false := by rw [up_set, if_neg (by omega)]
      have hD0 := hP0 gd0 gn2
      have own := hD0.own (k := 2)
      refine par_append seatT ⟨some 65, _, _, _, _, _⟩ rfl (by rfl) (.tmp 63) (.tmp 64) (by rfl) W.heap.size _ _ [] X (by rfl) (by rfl) own (HR.out.below (hN gn7)) (by simp only [List.length_nil]; omega) hSw.size ?_
      intro v' wn hA
      have hg := hA.grown
      have hSn := grow_keep hSw hg (fun q hq => (own.lt q hq).1)
      have hbN : L'.getD 7 false = false → RowKit.Below W.heap.size W wn := fun e => (hN e).grown hg (hN e).size (fun q hq => (own.lt q hq).1)
      exact ⟨hSn, (u63), (v'), (u67), (u68), (u69), by simp only [Act.put, List.setIfInBounds_toArray, List.set_cons_zero, List.set_cons_succ], hSn, by rw [g2]; exact fun _ e => absurd e (by decide), fun _ _ => (by have h := hA.own; rwa [List.nil_append] at h), by rw [g4, g5]; exact fun e e2 => (hP4 e e2).grown hg (hD0.apart (by simp)), by rw [g5, g7]; exact fun e e2 => absurd (e.symm.trans gn5) (by decide), by rw [g6]; exact fun e => absurd (e.symm.trans gn6) (by decide), by rw [g7]; exact fun e => absurd (e.symm.trans gn7) (by decide), by rw [g7]; exact hbN⟩
    · have g0 : (L'.setIfInBounds 4 true).getD 0 false = L'.getD 0 false := by rw [up_set, if_neg (by omega)]
      have g2 : (L'.setIfInBounds 4 true).getD 2 false = L'.getD 2 false := by rw [up_set, if_neg (by omega)]
      have g4 : (L'.setIfInBounds 4 true).getD 4 false = true := by rw [up_set, if_pos ⟨rfl, by omega⟩]
      have g5 : (L'.setIfInBounds 4 true).getD 5 false = L'.getD 5 false := by rw [up_set, if_neg (by omega)]
      have g6 : (L'.setIfInBounds 4 true).getD 6 false = L'.getD 6 false := by rw [up_set, if_neg (by omega)]
      have g7 : (L'.setIfInBounds 4 true).getD 7 false = L'.getD 7 false := by rw [up_set, if_neg (by omega)]
      have hb : RowKit.Below w.heap.size w (w.alloc (.cells #[.int .i64 s.student, .string s.code] 53)) := below_alloc1 _ _
      have hSn := grows_trans hSw (below_grows hb)
      refine par_run ⟨some 67, _, _, _, _, _⟩ (.slice (some ⟨w.heap.size, 0, none⟩) 1 1) (w.alloc (.cells #[.int .i64 s.student, .string s.code] 53)) rfl (by rfl) (by go_simp) ?_
      exact ⟨hSn, (u63), (u65), (.slice (some ⟨w.heap.size, 0, none⟩) 1 1), (u68), (u69), by simp only [Act.put, List.setIfInBounds_toArray, List.set_cons_zero, List.set_cons_succ], hSn, by rw [g0, g2]; exact fun e e2 => (hP0 e e2).below hb, by rw [g2, g5]; exact fun e e2 => own_below (hP2 e e2) hb, fun _ _ => Laid.new w _ _ _ hSw.size, by rw [g5, g7]; exact fun e e2 => absurd (e.symm.trans gn5) (by decide), by rw [g6]; exact fun e => absurd (e.symm.trans gn6) (by decide), by rw [g7]; exact fun e => absurd (e.symm.trans gn7) (by decide), by rw [g7]; exact fun e => below_next (hN e) hb⟩
    · have g0 : (L'.setIfInBounds 5 true).getD 0 false = L'.getD 0 false := by rw [up_set, if_neg (by omega)]
      have g2 : (L'.setIfInBounds 5 true).getD 2 false = L'.getD 2 false := by rw [up_set, if_neg (by omega)]
      have g4 : (L'.setIfInBounds 5 true).getD 4 false = L'.getD 4 false := by rw [up_set, if_neg (by omega)]
      have g5 : (L'.setIfInBounds 5 true).getD 5 false = true := by rw [up_set, if_pos ⟨rfl, by omega⟩]
      have g6 : (L'.setIfInBounds 5 true).getD 6 false = L'.getD 6 false := by rw [up_set, if_neg (by omega)]
      have g7 : (L'.setIfInBounds 5 true).getD 7 false = L'.getD 7 false := by rw [up_set, if_neg (by omega)]
      have hD2 := hP2 gd2 gn5
      have hD4 := hP4 gd4 gn5
      refine par_append seatT ⟨some 68, _, _, _, _, _⟩ rfl (by rfl) (.tmp 65) (.tmp 67) (by rfl) W.heap.size _ _ X [s] (by rfl) (by rfl) hD2 (hD4.row [s] rfl rfl) (by simp only [List.length_singleton]; omega) hSw.size ?_
      intro v' wn hA
      have hg := hA.grown
      have hSn := grow_keep hSw hg (fun q hq => (hD2.lt q hq).1)
      have hbN : L'.getD 7 false = false → RowKit.Below W.heap.size W wn := fun e => (hN e).grown hg (hN e).size (fun q hq => (hD2.lt q hq).1)
      exact ⟨hSn, (u63), (u65), (u67), (v'), (u69), by simp only [Act.put, List.setIfInBounds_toArray, List.set_cons_zero, List.set_cons_succ], hSn, by rw [g0, g2]; exact fun e e2 => absurd (gd2.symm.trans e2) (by decide), by rw [g5]; exact fun _ e => absurd e (by decide), by rw [g5]; exact fun _ e => absurd e (by decide), fun _ _ => hA.own, by rw [g6]; exact fun e => absurd (e.symm.trans gn6) (by decide), by rw [g7]; exact fun e => absurd (e.symm.trans gn7) (by decide), by rw [g7]; exact hbN⟩
    · have g0 : (L'.setIfInBounds 6 true).getD 0 false = L'.getD 0 false := by rw [up_set, if_neg (by omega)]
      have g2 : (L'.setIfInBounds 6 true).getD 2 false = L'.getD 2 false := by rw [up_set, if_neg (by omega)]
      have g4 : (L'.setIfInBounds 6 true).getD 4 false = L'.getD 4 false := by rw [up_set, if_neg (by omega)]
      have g5 : (L'.setIfInBounds 6 true).getD 5 false = L'.getD 5 false := by rw [up_set, if_neg (by omega)]
      have g6 : (L'.setIfInBounds 6 true).getD 6 false = true := by rw [up_set, if_pos ⟨rfl, by omega⟩]
      have g7 : (L'.setIfInBounds 6 true).getD 7 false = L'.getD 7 false := by rw [up_set, if_neg (by omega)]
      have hD5 := hP5 gd5 gn7
      have hSn := hSw
      refine par_run ⟨some 69, _, _, _, _, _⟩ (.pointer (some ⟨bd, 0, none⟩)) w rfl (by rfl) (by go_simp) ?_
      exact ⟨hSn, (u63), (u65), (u67), (u68), (.pointer (some ⟨bd, 0, none⟩)), by simp only [Act.put, List.setIfInBounds_toArray, List.set_cons_zero, List.set_cons_succ], hSn, by rw [g0, g2]; exact hP0, by rw [g2, g5]; exact hP2, by rw [g4, g5]; exact hP4, by rw [g5, g7]; exact hP5, fun _ => rfl, by rw [g7]; exact fun e => absurd (e.symm.trans gn7) (by decide), by rw [g7]; exact hN⟩
    · have g0 : (L'.setIfInBounds 7 true).getD 0 false = L'.getD 0 false := by rw [up_set, if_neg (by omega)]
      have g2 : (L'.setIfInBounds 7 true).getD 2 false = L'.getD 2 false := by rw [up_set, if_neg (by omega)]
      have g4 : (L'.setIfInBounds 7 true).getD 4 false = L'.getD 4 false := by rw [up_set, if_neg (by omega)]
      have g5 : (L'.setIfInBounds 7 true).getD 5 false = L'.getD 5 false := by rw [up_set, if_neg (by omega)]
      have g6 : (L'.setIfInBounds 7 true).getD 6 false = L'.getD 6 false := by rw [up_set, if_neg (by omega)]
      have g7 : (L'.setIfInBounds 7 true).getD 7 false = true := by rw [up_set, if_pos ⟨rfl, by omega⟩]
      have hD5 := hP5 gd5 gn7
      have hD6 := hP6 gd6
      subst hD6
      obtain ⟨p5, c5, rfl⟩ := own_form hD5
      have hbx := ((hN gn7).block bd (lt_of_heap hx)).trans hx
      have hcx := Lib.cell_of_heap hbx 0
      have hfx := Lib.frozen_of_heap hbx 0
      have hg := Only.setCell w bd 0 (.slice p5 (X ++ [s]).length c5) 0
      have hSn : W.grownBy (w.setCell ⟨bd, 0, none⟩ (.slice p5 (X ++ [s]).length c5)) (some bd) := grows_trans hSw hg
      refine par_put ⟨none, _, _, _, _, _⟩ (w.setCell ⟨bd, 0, none⟩ (.slice p5 (X ++ [s]).length c5)) rfl (by rfl) (by go_simp) ?_
      exact ⟨hSn, (u63), (u65), (u67), (.slice p5 (X ++ [s]).length c5), (.pointer (some ⟨bd, 0, none⟩)), by simp only [Act.put], hSn, by rw [g0, g2]; exact fun e e2 => absurd (gd2.symm.trans e2) (by decide), by rw [g2, g5]; exact fun e e2 => absurd (gd5.symm.trans e2) (by decide), by rw [g4, g5]; exact fun e e2 => absurd (gd5.symm.trans e2) (by decide), by rw [g7]; exact fun _ e => absurd e (by decide), by rw [g6]; exact hP6, fun _ => ⟨p5, c5, by simp [World.setCell, Array.getElem?_modify, hbx], own_set hD5 (lt_of_heap hx) 0 _⟩, by rw [g7]; exact fun e => absurd e (by decide)⟩
  · intro L' a w hp hI
    obtain ⟨u63, u65, u67, u68, u69, rfl, hSw, hP0, hP2, hP4, hP5, hP6, hP7, hN⟩ := hI
    (try simp only [Bool.and_eq_true] at hp)
    have p7 := hp
    obtain ⟨p, c, hbx, hro⟩ := hP7 p7
    exact HQ.out _ _ _ _ _ p c w hSw hbx hro
  · refine par_take ⟨some 64, _, _, _, _, _⟩ ?_ rfl (by rfl) ?_ ?_
    rotate_left 1
    · intro w hSw; (try dsimp only at hSw); go_simp; (try with_reducible rfl)
    simp only [Act.put, List.setIfInBounds_toArray, List.set_cons_zero, List.set_cons_succ]
    refine par_take_row ⟨some 66, _, _, _, _, _⟩ rfl (by rfl) 53 (.tmp 13) (by rfl) bs 0 (by rfl) [.int .i64 s.student, .string s.code] _ (fun w hSw => sb_at hs hne hSw) Tryz.underlying53 rfl (by kernel_rfl) ?_
    simp only [Act.put, List.setIfInBounds_toArray, List.set_cons_zero, List.set_cons_succ]
    exact ⟨_, _, _, _, _, rfl, hS0, (fun e => absurd e (by decide +kernel)), (fun e => absurd e (by decide +kernel)), (fun e => absurd e (by decide +kernel)), (fun e => absurd e (by decide +kernel)), (fun e => absurd e (by decide +kernel)), (fun e => absurd e (by decide +kernel)), (fun _ => (Below.refl _ _).drew)⟩
end Go.Proofs.YteopjiedjnaeiaaGreat
