/- The reference's number: walked once. -/
import Derived.Test.YtnkbelbalaeieaaDoorVRfP
import Derived.Test.YtnkbelbalaeieaaDoorVRf
import Derived.Deep.DeepCutAuto
import Derived.Deep.CutBlock
namespace Go.Proofs.YtnkbelbalaeieaaDoor.Wr
open Go Go.RowKit Go.Sort Go.Lib

@[local go_sem] theorem slice_lh {P : Program} (w : World) (t : TypeId) (s : ByteArray) (ht : P.underlying t = some .string) (kl kh : IntKind) (l h : Int) (h0 : 0 ≤ l) (h1 : l ≤ h) (h2 : h ≤ s.size) :
    (Instr.slice t (.string s) (some (.int kl l)) (some (.int kh h)) none).run P w = .ok (.string (s.extract l.toNat h.toNat)) w := by
  have h3 : 0 ≤ h := by omega
  have h4 : l.toNat ≤ h.toNat := by omega
  simp [Instr.slice, Instr.sliceBounds, Instr.sliceBound, asIntOf, run_underlying ht, h0, h2, h3]
  intro hc
  exfalso
  omega
/-- What a call of the reference's number comes to. -/
def RefNum (p : Nat) (s : ByteArray) (k : Nat) (z : Option (Int × List UInt8)) (w : World) (e : Ending) (w' : World) : Prop :=
  match z with
  | some (n, r) => e = .returned (.tuple #[.int .i64 n, .bool true]) ∧ Fits n ∧ (∃ k', k < k' ∧ k' ≤ s.size ∧ r = s.data.toList.drop k' ∧ RfAt w' p s k' false) ∧ But p w w'
  | none => e = .returned (.tuple #[.int .i64 0, .bool false]) ∧ (∃ b, RfAt w' p s k b) ∧ But p w w'
theorem rfNumber_bad (p : Nat) (s : ByteArray) (k : Nat) (c : UInt8) (w : World) (h : RfAt w p s k true) :
    Calls Tryd.prog 93 #[.pointer (some ⟨p, 0, none⟩), .int .u8 c.toNat] w (RefNum p s k none w) := by
  have hR := h
  obtain ⟨⟨h0, h1, h2⟩, -⟩ := h
  go_enter Tryd.func93, Tryd.ntmps93
  go_wp2_with fail
  (try simp only [Exit.inBlock, Exit.then]); refine bodyPost_ret (results_tmp2 rfl _ _ _) rfl ?_
  exact ⟨rfl, ⟨_, hR⟩, But.refl _ _⟩
theorem get_ba (s : ByteArray) (t : Nat) (h : t < s.size) : s[t]'h = s.data.toList[t]'(by rw [← ba_size]; exact h) := rfl
theorem u8_bne {a c : UInt8} : ((a.toNat : Int) != c.toNat) = (a != c) := by
  by_cases h : a = c
  · subst h; simp
  · have : a.toNat ≠ c.toNat := fun e => h (UInt8.toNat_inj.1 e)
    rw [bne_iff_ne.2 h, bne_iff_ne.2 (by omega)]
set_option maxHeartbeats 8000000 in
set_option maxRecDepth 100000 in
theorem rfNumber_good (p : Nat) (s : ByteArray) (hs : s.size ≤ 100000000) (k : Nat) (hk : k ≤ s.size) (c : UInt8) (w : World) (h : RfAt w p s k false) :
    Calls Tryd.prog 93 #[.pointer (some ⟨p, 0, none⟩), .int .u8 c.toNat] w (RefNum p s k (numP (s.data.toList.drop k) c) w) := by
  have hR := h
  have hpl := h.lt
  obtain ⟨⟨h0, h1, h2⟩, f0, f1, f2⟩ := h
  have HSZ := Lib.hid (ba_size s)
  have hw21 : IntKind.i64.wrap ((k : Int) + 21) = (k : Int) + 21 := IntWalk.i64_in _ (by omega)
  generalize hZ : numP (s.data.toList.drop k) c = Z
  have HZ := Lib.hid hZ
  clear hZ
  go_enter Tryd.func93, Tryd.ntmps93
  go_upto_block 0 with fail
  go_cut [6] (fun i wx => ∃ t : Nat, k ≤ t ∧ t ≤ s.size ∧ t ≤ k + 21 ∧ i = .int .i64 t ∧ Hid ((∀ j (hj : j < s.data.toList.length), k ≤ j → j < t → s.data.toList[j] ≠ c) ∧ (t = s.size ∨ t = k + 21 ∨ ∃ ht : t < s.data.toList.length, s.data.toList[t] = c)) ∧ wx = w)
  case first =>
    go_wp2_with fail
    go_loopw [6] (fun i wr => ∃ t : Nat, k ≤ t ∧ t ≤ s.size ∧ t ≤ k + 21 ∧ i = .int .i64 t ∧ Hid (∀ j (hj : j < s.data.toList.length), k ≤ j → j < t → s.data.toList[j] ≠ c) ∧ wr = w) (fun i _ => s.size - (RowKit.intOf i).toNat)
    case atStart => exact ⟨k, Nat.le_refl _, hk, by omega, rfl, Lib.hid fun j _ h1 h2 => absurd h1 (by omega), rfl⟩
    case round =>
      obtain ⟨t, hkt, hts, ht21, rfl, HN, rfl⟩ := hrel
      by_cases hend : t = s.size
      · subst hend
        have hnl : ¬ (s.size : Int) < s.size := by omega
        go_wp2_with fail
        go_meet
        case rel => exact ⟨s.size, hkt, Nat.le_refl _, ht21, rfl, Lib.hid ⟨HN.out, .inl rfl⟩, rfl⟩
      · have htl : t < s.data.toList.length := by rw [← HSZ.out]; omega
        have hti : (t : Int) < s.size := by omega
        obtain ⟨v0, hv0⟩ : ∃ v0, s.data.toList[t] = v0 := ⟨_, rfl⟩
        have hg : ∀ h : t < s.size, s[t]'h = v0 := fun h => (get_ba s t h).trans hv0
        by_cases hlt : t < k + 21
        · have hlti : (t : Int) < (k : Int) + 21 := by omega
          by_cases hc : v0 = c
          · have HC := Lib.hid (⟨htl, hv0.trans hc⟩ : ∃ ht : t < s.data.toList.length, s.data.toList[t] = c)
            have hcb : ((v0.toNat : Int) != c.toNat) = false := by rw [u8_bne, hc]; simp
            clear hv0 hc
            go_wp2_with fail
            go_meet
            case rel => exact ⟨t, hkt, hts, ht21, rfl, Lib.hid ⟨HN.out, .inr (.inr HC.out)⟩, rfl⟩
          · have hcb : ((v0.toNat : Int) != c.toNat) = true := by rw [u8_bne]; exact bne_iff_ne.2 hc
            have HC := Lib.hid (fun (ht : t < s.data.toList.length) (h : s.data.toList[t] = c) => hc (hv0.symm.trans h))
            clear hv0 hc
            go_wp2_with fail
            go_roundw
            case rel => exact ⟨t + 1, by omega, by omega, by omega, by go_num, Lib.hid fun j hj h1 h2 => by
              rcases Nat.lt_or_ge j t with h | h
              · exact HN.out j hj h1 h
              · obtain rfl : j = t := by omega
                exact HC.out hj, by first | rfl | trivial⟩
            case measure => simp [RowKit.intOf]; omega
        · have hlti : ¬ (t : Int) < (k : Int) + 21 := by omega
          clear hv0
          go_wp2_with fail
          go_meet
          case rel => exact ⟨t, hkt, hts, ht21, rfl, Lib.hid ⟨HN.out, .inr (.inl (by omega))⟩, rfl⟩
  case rest =>
    obtain ⟨t, hkt, hts, ht21, rfl, HT, rfl⟩ := hcut
    by_cases hend : t = s.size
    · have hz : Z = none := by
        rw [← HZ.out]
        refine numP_none fun x hx => ?_
        obtain ⟨j, hj, rfl⟩ := List.getElem_of_mem hx
        rw [List.getElem_drop]
        rw [List.length_drop] at hj
        have hsz := HSZ.out
        exact HT.out.1 (k + j) (by omega) (by omega) (by omega)
      subst hend
      go_wp2_with fail
      (try simp only [Exit.inBlock, Exit.then]); refine bodyPost_ret (results_tmp2 rfl _ _ _) rfl ?_
      (try rw [hz])
      exact ⟨rfl, ⟨_, hR⟩, But.refl _ _⟩
    · have htl : t < s.data.toList.length := by rw [← HSZ.out]; omega
      have hti : (t : Int) < s.size := by omega
      have hne : ((t : Int) == s.size) = false := by rw [beq_eq_false_iff_ne]; omega
      obtain ⟨v0, hv0⟩ : ∃ v0, s.data.toList[t] = v0 := ⟨_, rfl⟩
      have hg : ∀ h : t < s.size, s[t]'h = v0 := fun h => (get_ba s t h).trans hv0
      by_cases hc : v0 = c
      · have hcb : ((v0.toNat : Int) != c.toNat) = false := by rw [u8_bne, hc]; simp
        obtain ⟨u, hu⟩ : ∃ u, u = (s.data.toList.drop k).take (t - k) := ⟨_, rfl⟩
        obtain ⟨v, hv⟩ : ∃ v, v = s.data.toList.drop (t + 1) := ⟨_, rfl⟩
        have hsplit : s.data.toList.drop k = u ++ c :: v := by
          rw [hu, hv]
          conv => lhs; rw [← List.take_append_drop (t - k) (s.data.toList.drop k)]
          rw [List.drop_drop, show k + (t - k) = t by omega, List.drop_eq_getElem_cons htl, hv0, hc]
        have hun : ∀ x ∈ u, x ≠ c := fun x hx => by
          rw [hu] at hx
          obtain ⟨j, hj, rfl⟩ := List.getElem_of_mem hx
          rw [List.length_take, List.length_drop] at hj
          have hsz := HSZ.out
          rw [List.getElem_take, List.getElem_drop]
          exact HT.out.1 (k + j) (by omega) (by omega) (by omega)
        have hul : u.length = t - k := by have hsz := HSZ.out; rw [hu, List.length_take, List.length_drop]; omega
        have hext : s.extract k t = ⟨u.toArray⟩ := ba_ext (by rw [hu]; simp [ByteArray.data_extract])
        have hZn : NoInt u → Z = none := fun h => by rw [← HZ.out, hsplit]; exact numP_noint hun h
        have hZs : ∀ n, Fits n → itoa n = u → Z = some (n, v) := fun n hn e => by rw [← HZ.out, hsplit]; exact numP_is hun hn e
        have huz : (⟨u.toArray⟩ : ByteArray).size = u.length := by simp [ByteArray.size]
        have hk0i : (0 : Int) ≤ k := by omega
        have hkti : (k : Int) ≤ t := by omega
        have htsi : (t : Int) ≤ s.size := by omega
        have HV := Lib.hid hv
        have HZN := Lib.hid hZn
        have HZS := Lib.hid hZs
        clear hu hv hsplit HT hc hv0 htl HSZ HZ hZn hZs hun
        go_wp2_with fail
        go_quiet (fail)
        generalize hwd : wc.drewN nq = wd
        have hRd : RfAt wd p s k false := by rw [← hwd]; exact hR
        have hBd : But p wc wd := But.of (by rw [← hwd]; exact below_drewN' (Below.refl _ _) _)
        have hpd := hRd.lt
        obtain ⟨⟨h0, h1, h2⟩, f0, f1, f2⟩ := id hRd
        clear hwd
        go_upto_region 10 with fail
        have hff : (frm u : Int) = 0 ∨ (frm u : Int) = 1 := by unfold frm; split <;> simp
        go_cut [8, 86] (fun x cb wx => x = .int .i64 0 ∧ cb = .bool (decide (frm u = 1)) ∧ wx = wd)
        case first =>
          by_cases hz0 : u.length = 0
          · have hul0 : ¬ (0 : Int) < u.length := by omega
            have hdf : decide (frm u = 1) = false := by rw [List.eq_nil_of_length_eq_zero hz0]; rfl
            clear hz0
            go_wp2_with fail
            go_meet
            case rel => exact ⟨rfl, by rw [hdf], rfl⟩
          · have hul1 : (0 : Int) < u.length := by omega
            obtain ⟨a, ha0⟩ : ∃ a, u[0]'(by omega) = a := ⟨_, rfl⟩
            have hga : ∀ h, (⟨u.toArray⟩ : ByteArray)[0]'h = a := fun h => ha0
            have hdf : decide (frm u = 1) = ((a.toNat : Int) == 45) := by
              have hh : u.head? = some a := by rw [List.head?_eq_getElem?, List.getElem?_eq_getElem (by omega), ha0]
              unfold frm
              rw [hh]
              by_cases ha : a = 45
              · subst ha; rfl
              · rw [if_neg (by simpa using ha), beq_eq_false_iff_ne.2 (fun e => ha (UInt8.toNat_inj.1 (by rw [show (45 : UInt8).toNat = 45 from rfl]; omega)))]; rfl
            clear ha0 hz0
            go_wp2_with fail
            go_meet
            case rel => exact ⟨rfl, by rw [hdf], rfl⟩
        case rest =>
          obtain ⟨rfl, rfl, rfl⟩ := hcut
          go_upto_if 86 with fail
          go_cut [8] (fun x wx => x = .int .i64 (frm u : Nat) ∧ wx = wc)
          case first =>
            rcases hff with hf | hf
            · have hd : decide (frm u = 1) = false := decide_eq_false (by omega)
              go_wp2_with fail
              go_meet
              case rel => exact ⟨by rw [hf], rfl⟩
            · have hd : decide (frm u = 1) = true := decide_eq_true (by omega)
              go_wp2_with fail
              go_meet
              case rel => exact ⟨by rw [hf], rfl⟩
          case rest =>
            obtain ⟨rfl, rfl⟩ := hcut
            have hfu : frm u ≤ u.length := by
              unfold frm; split
              · rename_i h; cases u with
                | nil => cases h
                | cons a r => simp
              · omega
            obtain ⟨fu, hfe⟩ : ∃ fu, frm u = fu := ⟨_, rfl⟩
            rw [hfe] at hff hfu ⊢
            go_upto_block 2 with fail
            go_cut [9] (fun x wx => ∃ n : Int, x = .int .i64 n ∧ Hid (Jn u u.length n) ∧ wx = wc)
            case first =>
              go_wp2_with fail
              go_loopw [9, 10] (fun x i wr => ∃ (j : Nat) (n : Int), fu ≤ j ∧ j ≤ u.length ∧ i = .int .i64 j ∧ x = .int .i64 n ∧ Hid (Jn u j n) ∧ wr = wc) (fun _ i _ => u.length - (RowKit.intOf i).toNat)
              case atStart => exact ⟨fu, 0, Nat.le_refl _, hfu, rfl, rfl, Lib.hid (by have := Jn_start u; rwa [hfe] at this), rfl⟩
              case round =>
                obtain ⟨j, n, hj0, hj, rfl, rfl, HJ, rfl⟩ := hrel
                by_cases hjl : j < u.length
                · have hji : (j : Int) < u.length := by omega
                  obtain ⟨d0, hd0⟩ : ∃ d0, u[j] = d0 := ⟨_, rfl⟩
                  have hgu : ∀ h, (⟨u.toArray⟩ : ByteArray)[j]'h = d0 := fun h => hd0
                  obtain ⟨hno, hgo⟩ := Jn_step HJ.out (by omega) hjl
                  rw [hd0] at hno hgo
                  have hd8 := UInt8.toNat_lt d0
                  have hwe : IntKind.i64.wrap ((d0.toNat : Int) - 48) = (d0.toNat : Int) - 48 := IntWalk.i64_in _ (by omega)
                  obtain ⟨e, he⟩ : ∃ e, (d0.toNat : Int) - 48 = e := ⟨_, rfl⟩
                  rw [he] at hno hgo
                  replace hwe := hwe.trans he
                  have hnb := HJ.out.1
                  have hnu := HJ.out.2.1
                  have HNO := Lib.hid hno
                  have HGO := Lib.hid hgo
                  clear hno hgo hd0 he
                  by_cases c1 : e < 0
                  · have hz : Z = none := HZN.out (HNO.out (.inl c1))
                    go_wp2_with fail
                    (try simp only [Exit.inBlock, Exit.then]); refine bodyPost_ret (results_tmp2 rfl _ _ _) rfl ?_
                    (try rw [hz])
                    exact ⟨rfl, ⟨_, hRd⟩, hBd⟩
                  · by_cases c2 : 9 < e
                    · have hz : Z = none := HZN.out (HNO.out (.inr (.inl c2)))
                      go_wp2_with fail
                      (try simp only [Exit.inBlock, Exit.then]); refine bodyPost_ret (results_tmp2 rfl _ _ _) rfl ?_
                      (try rw [hz])
                      exact ⟨rfl, ⟨_, hRd⟩, hBd⟩
                    · by_cases c3 : n < -922337203685477580
                      · have hz : Z = none := HZN.out (HNO.out (.inr (.inr (.inl c3))))
                        go_wp2_with fail
                        (try simp only [Exit.inBlock, Exit.then]); refine bodyPost_ret (results_tmp2 rfl _ _ _) rfl ?_
                        (try rw [hz])
                        exact ⟨rfl, ⟨_, hRd⟩, hBd⟩
                      · by_cases c5 : n = -922337203685477580
                        · have c5b : (n == -922337203685477580) = true := beq_iff_eq.2 c5
                          by_cases c6 : 8 < e
                          · have hz : Z = none := HZN.out (HNO.out (.inr (.inr (.inr ⟨c5, c6⟩))))
                            clear c5
                            go_wp2_with fail
                            (try simp only [Exit.inBlock, Exit.then]); refine bodyPost_ret (results_tmp2 rfl _ _ _) rfl ?_
                            (try rw [hz])
                            exact ⟨rfl, ⟨_, hRd⟩, hBd⟩
                          · have HJ2 := Lib.hid (HGO.out (by omega) (by omega) (by omega) (fun _ => by omega))
                            have hw1 : IntKind.i64.wrap (10 * n) = 10 * n := IntWalk.i64_in _ (by omega)
                            have hw2 : IntKind.i64.wrap (10 * n - e) = 10 * n - e := IntWalk.i64_in _ (by have := HJ2.out.1; have := HJ2.out.2.1; omega)
                            clear c5
                            go_wp2_with fail
                            go_roundw
                            case rel => exact ⟨j + 1, _, by omega, by omega, by go_num, rfl, HJ2, by first | rfl | trivial⟩
                            case measure => simp [RowKit.intOf]; omega
                        · have c5b : (n == -922337203685477580) = false := beq_eq_false_iff_ne.2 c5
                          have HJ2 := Lib.hid (HGO.out (by omega) (by omega) (by omega) (fun h => absurd h c5))
                          have hw1 : IntKind.i64.wrap (10 * n) = 10 * n := IntWalk.i64_in _ (by omega)
                          have hw2 : IntKind.i64.wrap (10 * n - e) = 10 * n - e := IntWalk.i64_in _ (by have := HJ2.out.1; have := HJ2.out.2.1; omega)
                          clear c5
                          go_wp2_with fail
                          go_roundw
                          case rel => exact ⟨j + 1, _, by omega, by omega, by go_num, rfl, HJ2, by first | rfl | trivial⟩
                          case measure => simp [RowKit.intOf]; omega
                · obtain rfl : j = u.length := by omega
                  go_wp2_with fail
                  go_meet
                  case rel => exact ⟨n, rfl, HJ, rfl⟩
            case rest =>
              obtain ⟨n, rfl, HJ, rfl⟩ := hcut
              have hnb := HJ.out.1
              have hnu := HJ.out.2.1
              go_upto_if 122 with fail
              go_cut [9] (fun x wx => ∃ N : Int, x = .int .i64 N ∧ Hid (Fits N ∧ ∀ m, Fits m → u = itoa m → m = N) ∧ wx = wc)
              case first =>
                rcases hff with hf | hf
                · obtain rfl : fu = 0 := by omega
                  by_cases c7 : n = -9223372036854775808
                  · have hz : Z = none := HZN.out ((Jn_end HJ.out).1 hfe c7)
                    clear HJ
                    subst c7
                    have hwn : IntKind.i64.wrap (-(-9223372036854775808 : Int)) = -9223372036854775808 := by decide +kernel
                    have hwn2 : wrap64 9223372036854775808 = -9223372036854775808 := by unfold wrap64; omega
                    go_wp2_with fail
                    (try simp only [Exit.inBlock, Exit.then]); refine bodyPost_ret (results_tmp2 rfl _ _ _) rfl ?_
                    (try rw [hz])
                    exact ⟨rfl, ⟨_, hRd⟩, hBd⟩
                  · have hwn : IntKind.i64.wrap (-n) = -n := IntWalk.i64_in _ (by omega)
                    have hfin : fin u n = -n := by unfold fin; rw [if_pos hfe]
                    have HEND := (Jn_end HJ.out).2
                    rw [hfin] at HEND
                    have HN := Lib.hid (⟨⟨by omega, by omega⟩, HEND⟩ : Fits (-n) ∧ ∀ m, Fits m → u = itoa m → m = -n)
                    clear HEND HJ hfin
                    by_cases c8 : n = 0
                    · subst c8
                      go_wp2_with fail
                      go_meet
                      case rel => exact ⟨0, rfl, HN, rfl⟩
                    · have c9 : (n == -n) = false := beq_eq_false_iff_ne.2 (by omega)
                      have c10 : ¬ n = -n := by omega
                      clear c8 c7
                      go_wp2_with fail
                      go_meet
                      case rel => exact ⟨-n, rfl, HN, rfl⟩
                · obtain rfl : fu = 1 := by omega
                  have hfin : fin u n = n := by unfold fin; rw [if_neg (by omega)]
                  have HEND := (Jn_end HJ.out).2
                  rw [hfin] at HEND
                  have HN := Lib.hid (⟨⟨by omega, by omega⟩, HEND⟩ : Fits n ∧ ∀ m, Fits m → u = itoa m → m = n)
                  clear HEND HJ hfin
                  go_wp2_with fail
                  go_meet
                  case rel => exact ⟨n, rfl, HN, rfl⟩
              case rest =>
                obtain ⟨N, rfl, HN, rfl⟩ := hcut
                have cd := refDec_any N HN.out.1.1 HN.out.1.2 wc
                clear HJ hnb hnu hff
                by_cases hi : itoa N = u
                · have hz : Z = some (N, v) := HZS.out N HN.out.1 hi
                  have hib : (itoa N != u) = false := by rw [hi]; simp
                  have hib2 : (itoa N == u) = true := by rw [hi]; simp
                  have hk' : k < t + 1 ∧ t + 1 ≤ s.size := by omega
                  have hwt : IntKind.i64.wrap ((t : Int) + 1) = (t : Int) + 1 := IntWalk.i64_in _ (by omega)
                  go_wp2_with fail
                  refine cd.mono ?_
                  rintro _ w3 ⟨rfl, hb3⟩
                  have hR3 := (hRd.below hb3).move (t + 1)
                  have hB3 := (hBd.trans (But.of hb3)).set 1 (.int .i64 ((t + 1 : Nat) : Int))
                  obtain ⟨⟨k0, k1, k2⟩, l0, l1, l2⟩ := hRd.below hb3
                  have hpl3 := (hRd.below hb3).lt
                  clear cd h0 h1 h2 f0 f1 f2 hR
                  go_wp2_with fail
                  (try simp only [Exit.inBlock, Exit.then]); refine bodyPost_ret (results_tmp2 rfl _ _ _) rfl ?_
                  rw [hz]
                  exact ⟨rfl, HN.out.1, ⟨t + 1, hk'.1, hk'.2, HV.out, by simpa using hR3⟩, by simpa using hB3⟩
                · have hz : Z = none := HZN.out fun m hm e => hi (by rw [← HN.out.2 m hm e]; exact e.symm)
                  have hib : (itoa N != u) = true := bne_iff_ne.2 hi
                  have hib2 : (itoa N == u) = false := beq_eq_false_iff_ne.2 hi
                  go_wp2_with fail
                  refine cd.mono ?_
                  rintro _ w3 ⟨rfl, hb3⟩
                  go_wp2_with fail
                  (try simp only [Exit.inBlock, Exit.then]); refine bodyPost_ret (results_tmp2 rfl _ _ _) rfl ?_
                  (try rw [hz])
                  exact ⟨rfl, ⟨_, hRd.below hb3⟩, hBd.trans (But.of hb3)⟩
      · have hcb : ((v0.toNat : Int) != c.toNat) = true := by rw [u8_bne]; exact bne_iff_ne.2 hc
        have hz : Z = none := by
          rw [← HZ.out]
          refine numP_far fun x hx => ?_
          obtain ⟨j, hj, rfl⟩ := List.getElem_of_mem hx
          rw [List.getElem_take, List.getElem_drop]
          rw [List.length_take, List.length_drop] at hj
          have hsz := HSZ.out
          have h21 : t = k + 21 := by
            rcases HT.out.2 with h | h | ⟨ht, h⟩
            · exact absurd h hend
            · exact h
            · exact absurd (hv0.symm.trans h) hc
          rcases Nat.lt_or_ge (k + j) t with h | h
          · exact HT.out.1 (k + j) (by omega) (by omega) h
          · obtain rfl : t = k + j := by omega
            rw [hv0]; exact hc
        clear hv0 hc
        go_wp2_with fail
        (try simp only [Exit.inBlock, Exit.then]); refine bodyPost_ret (results_tmp2 rfl _ _ _) rfl ?_
        (try rw [hz])
        exact ⟨rfl, ⟨_, hR⟩, But.refl _ _⟩
end Go.Proofs.YtnkbelbalaeieaaDoor.Wr
