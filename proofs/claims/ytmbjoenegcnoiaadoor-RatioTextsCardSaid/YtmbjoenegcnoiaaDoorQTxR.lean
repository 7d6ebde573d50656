/- The reference's decimal, Text and number: each walked once. -/
import Derived.Test.YtmbjoenegcnoiaaDoorQTxA
namespace Go.Proofs.YtmbjoenegcnoiaaDoor
open Go Go.RowKit Go.Sort Go.Lib
attribute [local go_sem] conv_bytes1

theorem dec_small {n : Int} (h : 0 ≤ n) (h2 : n < 10) : itoa n = [UInt8.ofNat (48 + n).toNat] := by
  rcases itoa_cases n with ⟨_, e⟩ | ⟨h0, _⟩
  · rw [e, decDigits, dif_pos (by omega)]
    have : (48 + n).toNat = 48 + n.toNat := by omega
    rw [this]
  · omega
theorem dec_step {n : Int} (h : 10 ≤ n) : itoa n = itoa (n / 10) ++ itoa (n % 10) := by
  rcases itoa_cases n with ⟨_, e⟩ | ⟨h0, _⟩
  · rw [e, decDigits_step (by omega), dec_small (n := n % 10) (by omega) (by omega)]
    rcases itoa_cases (n / 10) with ⟨_, e2⟩ | ⟨h0, _⟩
    · rw [e2]
      have h1 : n.toNat / 10 = (n / 10).toNat := by omega
      have h2 : 48 + n.toNat % 10 = (48 + n % 10).toNat := by omega
      rw [h1, h2]
    · omega
  · omega
theorem dec_neg {n : Int} (h : n < 0) : itoa n = 45 :: itoa (-n) := by
  rcases itoa_cases n with ⟨_, _⟩ | ⟨_, e⟩
  · omega
  · rcases itoa_cases (-n) with ⟨_, e2⟩ | ⟨_, _⟩
    · rw [e, e2]
    · omega
set_option maxRecDepth 100000 in
theorem refDec_pos (k : Nat) : ∀ (n : Int) (w : World), 0 ≤ n → n < k → n ≤ 2147483648 →
    Calls Tryd.prog 43 #[.int .i64 n] w fun e w' => e = .returned (.string ⟨(itoa n).toArray⟩) ∧ RowKit.Below w.heap.size w w' := by
  induction k with
  | zero => intro n w h0 h1 _; omega
  | succ k ih =>
    intro n w h0 h1 h2
    by_cases hs : n < 10
    · have hw : IntKind.i64.wrap (48 + n) = 48 + n := IntWalk.i64_in _ (by omega)
      have H := Lib.hid (dec_small h0 hs)
      clear ih
      go_enter Tryd.func43, Tryd.ntmps43
      go_wp2_with fail
      go_ret
      exact ⟨ret_str (by rw [H.out]), below_alloc1 _ _⟩
    · have hl1 := Lib.itoa_length_le (n / 10) (by omega) (by omega)
      have hl2 := Lib.itoa_length_le (n % 10) (by omega) (by omega)
      have H := Lib.hid (dec_step (n := n) (by omega))
      have c1 := fun w => ih (n / 10) w (by omega) (by omega) (by omega)
      have c2 := fun w => ih (n % 10) w (by omega) (by omega) (by omega)
      clear ih
      go_enter Tryd.func43, Tryd.ntmps43
      go_wp2_with fail
      refine (c1 _).mono ?_
      rintro x w1 ⟨rfl, hb1⟩
      go_wp2_with fail
      refine (c2 _).mono ?_
      rintro x w2 ⟨rfl, hb2⟩
      go_wp2_with fail
      go_ret
      exact ⟨ret_str (ba_ext (by simp [H.out])), below_next hb1 hb2⟩
theorem refDec_any (n : Int) (h : -2147483648 ≤ n ∧ n ≤ 2147483648) (w : World) :
    Calls Tryd.prog 43 #[.int .i64 n] w fun e w' => e = .returned (.string ⟨(itoa n).toArray⟩) ∧ RowKit.Below w.heap.size w w' := by
  by_cases hn : 0 ≤ n
  · exact refDec_pos (n.toNat + 1) n w hn (by omega) (by omega)
  · have H := Lib.hid (dec_neg (n := n) (by omega))
    have hl := Lib.itoa_length_le (-n) (by omega) (by omega)
    have c := fun w => refDec_pos ((-n).toNat + 1) (-n) w (by omega) (by omega) (by omega)
    have hn' : n < 0 := by omega
    clear hn
    go_enter Tryd.func43, Tryd.ntmps43
    go_wp2_with fail
    refine (c _).mono ?_
    rintro x w1 ⟨rfl, hb1⟩
    go_wp2_with fail
    go_ret
    exact ⟨ret_str (ba_ext (by simp [H.out])), hb1⟩
set_option maxHeartbeats 1000000 in
theorem refText_any (r : Rt) (h : r.Ok) (w : World) :
    Calls Tryd.prog 17 #[r.val] w fun e w' => e = .returned (.string ⟨(textL r).toArray⟩) ∧ RowKit.Below w.heap.size w w' := by
  have ra := fun w => refRight_any r h w
  unfold Rt.val at *
  by_cases h1 : Right r
  · rw [decide_eq_true h1] at ra
    obtain ⟨p1, p2, p3, p4, -⟩ := id h1
    have hl := h1.len
    have cn := fun w => refDec_any r.n (by omega) w
    have cd := fun w => refDec_any r.d (by omega) w
    by_cases hd : r.d = 1
    · have HV := Lib.hid (show textL r = Lib.itoa r.n by unfold textL; rw [if_pos h1, if_pos hd])
      have hd1 : (r.d == 1) = true := by simpa using hd
      clear h1 h hd hl cd
      go_enter Tryd.func17, Tryd.ntmps17
      go_wp2_with fail
      refine (ra _).mono ?_
      rintro x w1 ⟨rfl, hb1⟩
      obtain ⟨hc1, hf1⟩ := bcell hb1
      have k0 : w1.cell? ⟨w.heap.size, 0, none⟩ = some (.int .i64 r.n) := (hc1 _ _ (by simp)).trans (by simp [go_sem])
      have k1 : w1.cell? ⟨w.heap.size, 1, none⟩ = some (.int .i64 r.d) := (hc1 _ _ (by simp)).trans (by simp [go_sem])
      have hbw : RowKit.Below w.heap.size w w1 := (below_alloc1 _ _).trans (hb1.mono (by simp))
      clear hb1 hc1 hf1 ra
      go_wp2_with fail
      refine (cn _).mono ?_
      rintro x w2 ⟨rfl, hb2⟩
      go_wp2_with fail
      go_ret
      exact ⟨ret_str (by rw [HV.out]), below_next hbw hb2⟩
    · have HV := Lib.hid (show textL r = Lib.itoa r.n ++ 47 :: Lib.itoa r.d by unfold textL; rw [if_pos h1, if_neg hd])
      have hd1 : (r.d == 1) = false := by simpa using hd
      clear h1 h hd
      obtain ⟨hl1, hl2⟩ := hl
      have hn1 : ¬ 9223372036854775807 < (Lib.itoa r.n).length + 1 := by omega
      have hn2 : ¬ 9223372036854775807 < (Lib.itoa r.n).length + 1 + (Lib.itoa r.d).length := by omega
      go_enter Tryd.func17, Tryd.ntmps17
      go_wp2_with fail
      refine (ra _).mono ?_
      rintro x w1 ⟨rfl, hb1⟩
      have hr := RatAt.below (RatAt.new w r 24) hb1
      have hbw : RowKit.Below w.heap.size w w1 := (below_alloc1 _ _).trans (hb1.mono (by simp))
      obtain ⟨k0, k1⟩ := id hr
      clear hb1 ra
      go_wp2_with fail
      have hS0 := rat_drew hr
      clear k0 k1
      refine of_onlyN ?_ (fun _ _ h => h)
      refine wp_region_flow (S := fun w' => RowKit.Below w1.heap.size w1 w' ∧ w'.cell? ⟨w.heap.size, 0, none⟩ = some (.int .i64 r.n) ∧ w'.cell? ⟨w.heap.size, 1, none⟩ = some (.int .i64 r.d)) [(0, true), (1, true), (4, true), (5, true), (2, false), (3, true), (6, false), (7, true), (8, true)] (by kernel_rfl) (by kernel_rfl) (by kernel_rfl) (by decide) (hS0) ?_
      have hS := hS0
      refine flow_take ⟨some 14, _, _, _, _, _⟩ ?_ rfl (by rfl) ?_ ?_
      rotate_left 1
      · intro w hSw; (try dsimp only at hSw); go_simp; (try with_reducible rfl)
      simp only [Act.put, List.setIfInBounds_toArray, List.set_cons_zero, List.set_cons_succ]
      refine flow_take ⟨some 15, _, _, _, _, _⟩ ?_ rfl (by rfl) ?_ ?_
      rotate_left 1
      · intro w hSw; (try dsimp only at hSw); go_simp; (try with_reducible rfl)
      simp only [Act.put, List.setIfInBounds_toArray, List.set_cons_zero, List.set_cons_succ]
      refine flow_take ⟨some 18, _, _, _, _, _⟩ ?_ rfl (by rfl) ?_ ?_
      rotate_left 1
      · intro w hSw; (try dsimp only at hSw); go_simp; (try with_reducible rfl)
      simp only [Act.put, List.setIfInBounds_toArray, List.set_cons_zero, List.set_cons_succ]
      refine flow_take ⟨some 19, _, _, _, _, _⟩ ?_ rfl (by rfl) ?_ ?_
      rotate_left 1
      · intro w hSw; (try dsimp only at hSw); go_simp; (try with_reducible rfl)
      simp only [Act.put, List.setIfInBounds_toArray, List.set_cons_zero, List.set_cons_succ]
      (first | (refine flow_call ⟨some 16, _, _, _, _, _⟩ rfl (by rfl) 43 _ _ (by rfl) _ (by rfl) Tryd.call43 (cn _) ?_; rintro x wn ⟨rfl, hb⟩; replace hS := rat_next hS hb; refine ⟨_, rfl, hS, ?_⟩; (try clear hb)) | (refine flow_call ⟨some 16, _, _, _, _, _⟩ rfl (by rfl) 43 _ _ (by rfl) _ (by rfl) Tryd.call43 (cd _) ?_; rintro x wn ⟨rfl, hb⟩; replace hS := rat_next hS hb; refine ⟨_, rfl, hS, ?_⟩; (try clear hb)))
      simp only [Act.put, List.setIfInBounds_toArray, List.set_cons_zero, List.set_cons_succ]
      refine flow_take ⟨some 17, _, _, _, _, _⟩ ?_ rfl (by rfl) ?_ ?_
      rotate_left 1
      · intro w hSw; (try dsimp only at hSw); go_simp; (try with_reducible rfl)
      simp only [Act.put, List.setIfInBounds_toArray, List.set_cons_zero, List.set_cons_succ]
      (first | (refine flow_call ⟨some 20, _, _, _, _, _⟩ rfl (by rfl) 43 _ _ (by rfl) _ (by rfl) Tryd.call43 (cn _) ?_; rintro x wn ⟨rfl, hb⟩; replace hS := rat_next hS hb; refine ⟨_, rfl, hS, ?_⟩; (try clear hb)) | (refine flow_call ⟨some 20, _, _, _, _, _⟩ rfl (by rfl) 43 _ _ (by rfl) _ (by rfl) Tryd.call43 (cd _) ?_; rintro x wn ⟨rfl, hb⟩; replace hS := rat_next hS hb; refine ⟨_, rfl, hS, ?_⟩; (try clear hb)))
      simp only [Act.put, List.setIfInBounds_toArray, List.set_cons_zero, List.set_cons_succ]
      refine flow_take ⟨some 21, _, _, _, _, _⟩ ?_ rfl (by rfl) ?_ ?_
      rotate_left 1
      · intro w hSw; (try dsimp only at hSw); go_simp; (try with_reducible rfl)
      simp only [Act.put, List.setIfInBounds_toArray, List.set_cons_zero, List.set_cons_succ]
      refine flow_take ⟨some 2, _, _, _, _, _⟩ ?_ rfl (by rfl) ?_ ?_
      rotate_left 1
      · intro w hSw; (try dsimp only at hSw); go_simp; (try with_reducible rfl)
      simp only [Act.put, List.setIfInBounds_toArray, List.set_cons_zero, List.set_cons_succ]
      simp only [wpFlow, OnlyN]
      go_wp2_with fail
      go_ret
      exact ⟨ret_str (ba_ext (by rw [HV.out]; simp)), hbw.trans (hS.1.mono hbw.size)⟩
  · rw [decide_eq_false h1] at ra
    have HV := Lib.hid (show textL r = [] by unfold textL; rw [if_neg h1])
    clear h1 h
    go_enter Tryd.func17, Tryd.ntmps17
    go_wp2_with fail
    refine (ra _).mono ?_
    rintro x w1 ⟨rfl, hb1⟩
    go_wp2_with fail
    go_ret
    exact ⟨ret_str (by rw [HV.out]), below_next (below_alloc1 _ _) hb1⟩
theorem fold_snoc (s : ByteArray) (k : Nat) (h : k < s.size) : (s.data.toList.take (k + 1)).foldl numStep (0, 1) = numStep ((s.data.toList.take k).foldl numStep (0, 1)) s[k] := by
  rw [List.take_succ_eq_append_getElem (by simpa using h), List.foldl_append]; rfl
set_option maxHeartbeats 2000000 in
theorem number_any (s : ByteArray) (hs : s.size ≤ 11) (w : World) :
    Calls Tryd.prog 44 #[.string s] w fun e w' => e = .returned (.int .i64 (numV s.data.toList)) ∧ w = w' := by
  go_enter Tryd.func44, Tryd.ntmps44
  go_wp2_with fail
  go_loop [3, 4, 5] (fun x sg i => ∃ (k P : Nat) (n g : Int), k ≤ s.size ∧ i = .int .i64 k ∧ x = .int .i64 n ∧ sg = .int .i64 g ∧ Hid ((s.data.toList.take k).foldl numStep (0, 1) = (n, g)) ∧ (g = 1 ∨ g = -1) ∧ Hid (P = 10 ^ k) ∧ 1 ≤ P ∧ -(300 * (P : Int) - 30) ≤ n ∧ n ≤ 300 * (P : Int) - 30) (fun _ _ i => s.size - (RowKit.intOf i).toNat)
  case atStart => exact ⟨0, 1, 0, 1, Nat.zero_le _, rfl, rfl, rfl, Lib.hid rfl, .inl rfl, Lib.hid rfl, by omega, by omega, by omega⟩
  case round =>
    obtain ⟨k, P, n, g, hk, rfl, rfl, rfl, H, hg, HP, hP1, hn1, hn2⟩ := hrel
    have hPm : P ≤ 100000000000 := by
      have : P ≤ 10 ^ 11 := by rw [HP.out]; exact Nat.pow_le_pow_right (by omega) (by omega)
      simpa using this
    by_cases hlt : k < s.size
    · have hsn := Lib.hid (fold_snoc s k hlt)
      have hc := s[k].toNat_lt
      by_cases h45 : s[k].toNat = 45
      · have hb : ((s[k].toNat : Int) == 45) = true := by simp [h45]
        have HN : Hid ((s.data.toList.take (k + 1)).foldl numStep (0, 1) = (n, -1)) := Lib.hid (by rw [hsn.out, H.out]; simp [numStep, h45])
        clear h45 H hsn
        go_wp2_with fail
        exact ⟨⟨k + 1, 10 * P, n, -1, by omega, by go_num, rfl, rfl, HN, .inr rfl, Lib.hid (by rw [HP.out, Nat.pow_succ, Nat.mul_comm]), by omega, by omega, by omega⟩, by simp [RowKit.intOf]; omega⟩
      · have hb : ((s[k].toNat : Int) == 45) = false := by simp; omega
        have HN : Hid ((s.data.toList.take (k + 1)).foldl numStep (0, 1) = (10 * n + s[k].toNat - 48, g)) := Lib.hid (by rw [hsn.out, H.out]; simp [numStep, h45])
        clear h45 H hsn
        go_wp2_with fail
        exact ⟨⟨k + 1, 10 * P, 10 * n + s[k].toNat - 48, g, by omega, by go_num, rfl, rfl, HN, hg, Lib.hid (by rw [HP.out, Nat.pow_succ, Nat.mul_comm]), by omega, by omega, by omega⟩, by simp [RowKit.intOf]; omega⟩
    · obtain rfl : k = s.size := by omega
      have HV : Hid (numV s.data.toList = g * n) := Lib.hid (by
        have := H.out
        rw [List.take_of_length_le (by rw [← ba_size]; omega)] at this
        unfold numV; rw [this])
      clear H
      rcases hg with rfl | rfl
      all_goals
        go_wp2_with fail
        go_ret
        exact ⟨ret_int (by rw [HV.out]; omega), rfl⟩
def lastStep (x : Nat × Nat) (c : UInt8) : Nat × Nat := (if c = 47 then x.2 else x.1, x.2 + 1)
theorem last_snoc (s : ByteArray) (k : Nat) (h : k < s.size) : (s.data.toList.take (k + 1)).foldl lastStep (s.data.toList.length, 0) = lastStep ((s.data.toList.take k).foldl lastStep (s.data.toList.length, 0)) s[k] := by
  rw [List.take_succ_eq_append_getElem (by simpa using h), List.foldl_append]; rfl
theorem last_is (s : List UInt8) : lastAt s = (s.foldl lastStep (s.length, 0)).1 := rfl
theorem last_le (s : List UInt8) : lastAt s ≤ s.length := by
  have key : ∀ (l : List UInt8) (a k N : Nat), a ≤ N → k + l.length ≤ N → (l.foldl lastStep (a, k)).1 ≤ N := by
    intro l
    induction l with
    | nil => intro a k N h _; exact h
    | cons c l ih =>
      intro a k N h1 h2
      simp only [List.foldl_cons, lastStep, List.length_cons] at h2 ⊢
      refine ih _ _ N ?_ (by omega)
      split <;> omega
  rw [last_is]
  exact key s _ _ _ (Nat.le_refl _) (by omega)
theorem ext_list (s : ByteArray) (i j : Nat) : (s.extract i j).data.toList = (s.data.toList.drop i).take (j - i) := by
  rw [ByteArray.data_extract, Array.toList_extract, List.extract_eq_take_drop]
theorem num_bound {l : List UInt8} (h : l.length ≤ 11) : -30000000000000 ≤ numV l ∧ numV l ≤ 30000000000000 := by
  have key : ∀ (l : List UInt8) (n g : Int) (P : Nat), (g = 1 ∨ g = -1) → -(300 * (P : Int) - 30) ≤ n → n ≤ 300 * (P : Int) - 30 → 1 ≤ P →
      ((l.foldl numStep (n, g)).2 = 1 ∨ (l.foldl numStep (n, g)).2 = -1) ∧ -(300 * ((P * 10 ^ l.length : Nat) : Int) - 30) ≤ (l.foldl numStep (n, g)).1 ∧ (l.foldl numStep (n, g)).1 ≤ 300 * ((P * 10 ^ l.length : Nat) : Int) - 30 := by
    intro l
    induction l with
    | nil => intro n g P hg h1 h2 _; simp only [List.foldl_nil, List.length_nil, Nat.pow_zero, Nat.mul_one]; exact ⟨hg, h1, h2⟩
    | cons c l ih =>
      intro n g P hg h1 h2 hP
      have hc := c.toNat_lt
      have e : P * 10 ^ (c :: l).length = (10 * P) * 10 ^ l.length := by rw [List.length_cons, Nat.pow_succ, Nat.mul_comm 10 P, Nat.mul_assoc, Nat.mul_comm 10]
      rw [List.foldl_cons, e]
      by_cases h45 : c.toNat = 45
      · have e2 : numStep (n, g) c = (n, -1) := by simp [numStep, h45]
        rw [e2]
        exact ih _ _ _ (.inr rfl) (by omega) (by omega) (by omega)
      · have e2 : numStep (n, g) c = (10 * n + c.toNat - 48, g) := by simp [numStep, h45]
        rw [e2]
        exact ih _ _ _ hg (by omega) (by omega) (by omega)
  obtain ⟨k1, k2, k3⟩ := key l 0 1 1 (.inl rfl) (by omega) (by omega) (by omega)
  have hP : 10 ^ l.length ≤ 10 ^ 11 := Nat.pow_le_pow_right (by omega) h
  rw [Nat.one_mul] at k2 k3
  generalize 10 ^ l.length = P at k2 k3 hP
  have hP' : P ≤ 100000000000 := by simpa using hP
  unfold numV
  rcases k1 with e | e <;> rw [e] <;> omega
@[local go_sem] theorem slice_lh {P : Program} (w : World) (t : TypeId) (s : ByteArray) (ht : P.underlying t = some .string) (kl kh : IntKind) (l h : Int) (h0 : 0 ≤ l) (h1 : l ≤ h) (h2 : h ≤ s.size) :
    (Instr.slice t (.string s) (some (.int kl l)) (some (.int kh h)) none).run P w = .ok (.string (s.extract l.toNat h.toNat)) w := by
  have h3 : 0 ≤ h := by omega
  have h4 : l.toNat ≤ h.toNat := by omega
  simp [Instr.slice, Instr.sliceBounds, Instr.sliceBound, asIntOf, run_underlying ht, h0, h2, h3]
  intro hc
  exfalso
  omega
def RPost (s : ByteArray) (r : Rt) (w : World) (e : Ending) (w' : World) : Prop :=
  e = .returned (.tuple #[(if (textL r).isEmpty = true ∨ (!textL r == s.toList) = true then (⟨0, 0⟩ : Rt) else r).val, .bool (!((textL r).isEmpty || (!textL r == s.toList)))]) ∧ RowKit.Below w.heap.size w w'
theorem refParse_post {s : ByteArray} {r : Rt} (h : refParseR s.data.toList = r) {w : World} {e : Ending} {w' : World} (hp : RPost s r w e w') :
    e = .returned (.tuple #[(refParseV s.data.toList).1.val, .bool (refParseV s.data.toList).2]) ∧ RowKit.Below w.heap.size w w' := by
  obtain ⟨rfl, hb⟩ := hp
  refine ⟨?_, hb⟩
  unfold refParseV
  rw [h, ByteArray.toList_eq]
  by_cases h1 : textL r = []
  · simp [h1]
  · by_cases h2 : textL r = s.data.toList
    · have h3 : s.data.toList ≠ [] := h2 ▸ h1
      have h4 : ¬ s.data = #[] := fun e => h3 (by rw [e])
      simp [h2, h4]
    · have h3 : (textL r == s.data.toList) = false := by simpa using h2
      simp [h1, h2]
set_option maxHeartbeats 4000000 in
set_option maxRecDepth 100000 in
theorem refParse_any (s : ByteArray) (hs : s.size ≤ 1000000) (w : World) :
    Calls Tryd.prog 18 #[.string s] w fun e w' => e = .returned (.tuple #[(refParseV s.data.toList).1.val, .bool (refParseV s.data.toList).2]) ∧ RowKit.Below w.heap.size w w' := by
  have hsl : s.data.toList.length = s.size := (ba_size s).symm
  have hL := Lib.hid (last_is s.data.toList)
  have hle := last_le s.data.toList
  rw [hsl] at hle
  have b0 := below_alloc1 w (.cells #[.int .i64 0, .int .i64 0] 24)
  have hS0 := Lib.hid hsl
  clear hsl
  generalize hA : lastAt s.data.toList = A at hle hL
  have HA := Lib.hid hA
  clear hA
  go_enter Tryd.func18, Tryd.ntmps18
  go_wp2_with fail
  go_loop [4, 5] (fun x i => ∃ k a : Nat, k ≤ s.size ∧ i = .int .i64 k ∧ x = .int .i64 a ∧ a ≤ s.size ∧ Hid ((s.data.toList.take k).foldl lastStep (s.data.toList.length, 0) = (a, k))) (fun _ i => s.size - (RowKit.intOf i).toNat)
  case atStart => exact ⟨0, s.size, Nat.zero_le _, rfl, rfl, Nat.le_refl _, Lib.hid (by rw [hS0.out]; rfl)⟩
  case round =>
    obtain ⟨k, a, hk, rfl, rfl, ha, H⟩ := hrel
    by_cases hlt : k < s.size
    · have hsn := Lib.hid (last_snoc s k hlt)
      by_cases h47 : s[k] = 47
      · have hb : ((s[k].toNat : Int) == 47) = true := by simp [h47]
        have HN : Hid ((s.data.toList.take (k + 1)).foldl lastStep (s.data.toList.length, 0) = (k, k + 1)) := Lib.hid (by rw [hsn.out, H.out]; simp [lastStep, h47])
        clear h47 H hsn
        go_wp2_with fail
        exact ⟨⟨k + 1, k, by omega, by go_num, rfl, by omega, HN⟩, by simp [RowKit.intOf]; omega⟩
      · have h47' : s[k].toNat ≠ 47 := fun e => h47 (UInt8.toNat_inj.1 e)
        have hb : ((s[k].toNat : Int) == 47) = false := by simp; omega
        have HN : Hid ((s.data.toList.take (k + 1)).foldl lastStep (s.data.toList.length, 0) = (a, k + 1)) := Lib.hid (by rw [hsn.out, H.out]; simp [lastStep, h47])
        clear h47 h47' H hsn
        go_wp2_with fail
        exact ⟨⟨k + 1, a, by omega, by go_num, rfl, by omega, HN⟩, by simp [RowKit.intOf]; omega⟩
    · obtain rfl : k = s.size := by omega
      obtain rfl : a = A := by
        have := H.out
        rw [List.take_of_length_le (by rw [hS0.out]; exact Nat.le_refl _)] at this
        rw [hL.out, this]
      clear H
      have hB1 := num_bound (l := s.data.toList.take (min a 11)) (by rw [List.length_take]; omega)
      have e1 : ∀ j, j = min a 11 → numV (s.extract 0 j).data.toList = numV (s.data.toList.take (min a 11)) := by
        rintro j rfl; rw [ext_list]; rfl
      have hR : refParseR s.data.toList = ⟨numV (s.data.toList.take (min a 11)), if a < s.size then numV ((s.data.toList.drop (a + 1)).take (min s.size (a + 12) - (a + 1))) else 1⟩ := by
        unfold refParseR; rw [HA.out, hS0.out]
      by_cases hlt2 : a < s.size
      · have hB2 := num_bound (l := (s.data.toList.drop (a + 1)).take (min s.size (a + 12) - (a + 1))) (by rw [List.length_take]; omega)
        have e2 : ∀ i j, i = a + 1 → j = min s.size (a + 12) → numV (s.extract i j).data.toList = numV ((s.data.toList.drop (a + 1)).take (min s.size (a + 12) - (a + 1))) := by
          rintro i j rfl rfl; rw [ext_list]
        rw [if_pos hlt2] at hR
        generalize numV (s.data.toList.take (min a 11)) = n1 at hB1 e1 hR
        generalize numV ((s.data.toList.drop (a + 1)).take (min s.size (a + 12) - (a + 1))) = d1 at hB2 e2 hR
        have HP := fun {w e w'} => refParse_post (s := s) hR (w := w) (e := e) (w' := w')
        have tx := fun w => refText_any ⟨n1, d1⟩ (show I64 n1 ∧ I64 d1 from ⟨⟨by omega, by omega⟩, ⟨by omega, by omega⟩⟩) w
        have hw1 : IntKind.i64.wrap ((a : Int) + 1) = (a : Int) + 1 := IntWalk.i64_in _ (by omega)
        have hw2 : IntKind.i64.wrap ((a : Int) + 12) = (a : Int) + 12 := IntWalk.i64_in _ (by omega)
        unfold Rt.val at tx
        have hm1 : (a : Int) + 1 ≤ min (s.size : Int) ((a : Int) + 12) := by omega
        have hm2 : min (s.size : Int) ((a : Int) + 12) ≤ s.size := by omega
        have hm0 : 0 ≤ (a : Int) + 1 := by omega
        clear hR hL HA hS0
        go_wp2_with fail
        refine (number_any _ (by rw [ByteArray.size_extract]; omega) _).mono ?_
        rintro x _ ⟨rfl, rfl⟩
        rw [e1 _ (by omega)]
        go_wp2_with fail
        refine (number_any _ (by rw [ByteArray.size_extract]; omega) _).mono ?_
        rintro x _ ⟨rfl, rfl⟩
        rw [e2 _ _ (by omega) (by omega)]
        go_wp2_with fail
        refine (tx _).mono ?_
        rintro x w4 ⟨rfl, hb4⟩
        have hz : w.heap.size < w4.heap.size := by have h2 := hb4.size; simp at h2; omega
        have hz3 : w.heap.size + 1 < w4.heap.size := by have h2 := hb4.size; simp at h2; omega
        obtain ⟨hc4, hf4⟩ := bcell hb4
        have k0 : w4.cell? ⟨w.heap.size, 0, none⟩ = some (.int .i64 0) := (hc4 _ _ (by simp; omega)).trans (by simp [go_sem])
        have k1 : w4.cell? ⟨w.heap.size, 1, none⟩ = some (.int .i64 0) := (hc4 _ _ (by simp; omega)).trans (by simp [go_sem])
        have f0 : w4.frozen? ⟨w.heap.size, 0, none⟩ = false := (hf4 _ _ (by simp; omega)).trans (by simp [go_sem])
        have f1 : w4.frozen? ⟨w.heap.size, 1, none⟩ = false := (hf4 _ _ (by simp; omega)).trans (by simp [go_sem])
        have l0 : w4.cell? ⟨w.heap.size + 1, 0, none⟩ = some (.int .i64 n1) := (hc4 _ _ (by simp)).trans (by simp [go_sem])
        have l1 : w4.cell? ⟨w.heap.size + 1, 1, none⟩ = some (.int .i64 d1) := (hc4 _ _ (by simp)).trans (by simp [go_sem])
        have hbw : RowKit.Below w.heap.size w w4 := b0.trans (((below_alloc1 _ _).trans (hb4.mono (by simp))).mono (by simp))
        clear hb4 hc4 hf4 b0 tx e1 hB1
        generalize hT : textL ⟨n1, d1⟩ = T at *
        go_wp2_with fail
        · rename_i hx
          exact bodyPost_ret (v := .tuple #[.agg #[.int .i64 0, .int .i64 0], .bool false]) (by simp [results, Tryd.results18, go_sem, k0, k1]) rfl (HP ⟨by rw [hT, hx]; simp [Rt.val], (hbw.setCell (Nat.le_refl _) _).setCell (Nat.le_refl _) _⟩)
        · rename_i hn hx
          have hx2 : (!T == s.toList) = true := by simpa [hn] using hx
          exact bodyPost_ret (v := .tuple #[.agg #[.int .i64 0, .int .i64 0], .bool false]) (by simp [results, Tryd.results18, go_sem, k0, k1]) rfl (HP ⟨by rw [hT, hx2]; simp [Rt.val], (hbw.setCell (Nat.le_refl _) _).setCell (Nat.le_refl _) _⟩)
        · rename_i hx
          obtain ⟨hx1, hx2⟩ := hx
          exact bodyPost_ret (v := .tuple #[.agg #[.int .i64 n1, .int .i64 d1], .bool true]) (by simp [results, Tryd.results18, go_sem, k0, k1]) rfl (HP ⟨by rw [hT, hx1, hx2]; simp [Rt.val], (hbw.setCell (Nat.le_refl _) _).setCell (Nat.le_refl _) _⟩)
      · rw [if_neg hlt2] at hR
        generalize numV (s.data.toList.take (min a 11)) = n1 at hB1 e1 hR
        have HP := fun {w e w'} => refParse_post (s := s) hR (w := w) (e := e) (w' := w')
        have tx := fun w => refText_any ⟨n1, 1⟩ (show I64 n1 ∧ I64 1 from ⟨⟨by omega, by omega⟩, ⟨by decide, by decide⟩⟩) w
        unfold Rt.val at tx
        clear hR hL HA hS0
        go_wp2_with fail
        refine (number_any _ (by rw [ByteArray.size_extract]; omega) _).mono ?_
        rintro x _ ⟨rfl, rfl⟩
        rw [e1 _ (by omega)]
        go_wp2_with fail
        refine (tx _).mono ?_
        rintro x w4 ⟨rfl, hb4⟩
        have hz : w.heap.size < w4.heap.size := by have h2 := hb4.size; simp at h2; omega
        have hz3 : w.heap.size + 1 < w4.heap.size := by have h2 := hb4.size; simp at h2; omega
        obtain ⟨hc4, hf4⟩ := bcell hb4
        have k0 : w4.cell? ⟨w.heap.size, 0, none⟩ = some (.int .i64 0) := (hc4 _ _ (by simp; omega)).trans (by simp [go_sem])
        have k1 : w4.cell? ⟨w.heap.size, 1, none⟩ = some (.int .i64 0) := (hc4 _ _ (by simp; omega)).trans (by simp [go_sem])
        have f0 : w4.frozen? ⟨w.heap.size, 0, none⟩ = false := (hf4 _ _ (by simp; omega)).trans (by simp [go_sem])
        have f1 : w4.frozen? ⟨w.heap.size, 1, none⟩ = false := (hf4 _ _ (by simp; omega)).trans (by simp [go_sem])
        have l0 : w4.cell? ⟨w.heap.size + 1, 0, none⟩ = some (.int .i64 n1) := (hc4 _ _ (by simp)).trans (by simp [go_sem])
        have l1 : w4.cell? ⟨w.heap.size + 1, 1, none⟩ = some (.int .i64 1) := (hc4 _ _ (by simp)).trans (by simp [go_sem])
        have hbw : RowKit.Below w.heap.size w w4 := b0.trans (((below_alloc1 _ _).trans (hb4.mono (by simp))).mono (by simp))
        clear hb4 hc4 hf4 b0 tx e1 hB1
        generalize hT : textL ⟨n1, 1⟩ = T at *
        go_wp2_with fail
        · rename_i hx
          exact bodyPost_ret (v := .tuple #[.agg #[.int .i64 0, .int .i64 0], .bool false]) (by simp [results, Tryd.results18, go_sem, k0, k1]) rfl (HP ⟨by rw [hT, hx]; simp [Rt.val], (hbw.setCell (Nat.le_refl _) _).setCell (Nat.le_refl _) _⟩)
        · rename_i hn hx
          have hx2 : (!T == s.toList) = true := by simpa [hn] using hx
          exact bodyPost_ret (v := .tuple #[.agg #[.int .i64 0, .int .i64 0], .bool false]) (by simp [results, Tryd.results18, go_sem, k0, k1]) rfl (HP ⟨by rw [hT, hx2]; simp [Rt.val], (hbw.setCell (Nat.le_refl _) _).setCell (Nat.le_refl _) _⟩)
        · rename_i hx
          obtain ⟨hx1, hx2⟩ := hx
          exact bodyPost_ret (v := .tuple #[.agg #[.int .i64 n1, .int .i64 1], .bool true]) (by simp [results, Tryd.results18, go_sem, k0, k1]) rfl (HP ⟨by rw [hT, hx1, hx2]; simp [Rt.val], (hbw.setCell (Nat.le_refl _) _).setCell (Nat.le_refl _) _⟩)
end Go.Proofs.YtmbjoenegcnoiaaDoor
