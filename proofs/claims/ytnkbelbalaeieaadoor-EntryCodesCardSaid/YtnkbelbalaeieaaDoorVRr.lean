/- The reference's New, Int, Text, byte of a reader, over all readers. -/
import Derived.Test.YtnkbelbalaeieaaDoorVRn
namespace Go.Proofs.YtnkbelbalaeieaaDoor.Wr
open Go Go.RowKit Go.Sort Go.Lib

/-- What a call of a reader of the reference comes to. -/
def RefReads {α : Type} (p : Nat) (s : ByteArray) (ok : α → Value) (bad : Value) (z : Option (α × List UInt8)) (w : World) (e : Ending) (w' : World) : Prop :=
  match z with
  | some (n, r) => e = .returned (ok n) ∧ (∃ k', k' ≤ s.size ∧ r = s.data.toList.drop k' ∧ RfAt w' p s k' false) ∧ But p w w'
  | none => e = .returned bad ∧ (∃ k', k' ≤ s.size ∧ RfAt w' p s k' true) ∧ But p w w'
theorem rf_new (w : World) (s : ByteArray) (t : TypeId) : RfAt (w.alloc (.cells #[.string s, .int .i64 (0 : Nat), .bool false] t)) w.heap.size s 0 false := ⟨⟨by simp [go_sem], by simp [go_sem], by simp [go_sem]⟩, by simp [go_sem], by simp [go_sem], by simp [go_sem]⟩
theorem rfNew_any (s : ByteArray) (w : World) : Calls Tryd.prog 72 #[.string s] w fun e w' => ∃ p : Nat, e = .returned (.pointer (some ⟨p, 0, none⟩)) ∧ w.heap.size ≤ p ∧ RfAt w' p s 0 false ∧ RowKit.Below w.heap.size w w' := by
  have h := rf_new w s 116
  go_enter Tryd.func72, Tryd.ntmps72
  go_wp2_with fail
  go_ret
  exact ⟨_, rfl, Nat.le_refl _, by simpa using h, below_alloc1 _ _⟩
theorem rfNumber_any (p : Nat) (s : ByteArray) (hs : s.size ≤ 100000000) (k : Nat) (hk : k ≤ s.size) (b : Bool) (c : UInt8) (w : World) (h : RfAt w p s k b) :
    Calls Tryd.prog 93 #[.pointer (some ⟨p, 0, none⟩), .int .u8 c.toNat] w (RefNum p s k (if b = true then none else numP (s.data.toList.drop k) c) w) := by
  cases b
  · rw [if_neg (by decide)]; exact rfNumber_good p s hs k hk c w h
  · rw [if_pos rfl]; exact rfNumber_bad p s k c w h
theorem rfInt_any (p : Nat) (s : ByteArray) (hs : s.size ≤ 100000000) (k : Nat) (hk : k ≤ s.size) (b : Bool) (w : World) (h : RfAt w p s k b) :
    Calls Tryd.prog 73 #[.pointer (some ⟨p, 0, none⟩)] w (RefReads p s (fun n => .int .i64 n) (.int .i64 0) (if b = true then none else intP (s.data.toList.drop k)) w) := by
  have c := rfNumber_any p s hs k hk b 59 w h
  change Calls _ _ _ _ (RefNum p s k (if b = true then none else intP (s.data.toList.drop k)) w) at c
  generalize (if b = true then none else intP (s.data.toList.drop k)) = z at c ⊢
  rcases z with _ | ⟨n, r⟩
  · unfold RefNum at c
    unfold RefReads
    dsimp only at c ⊢
    clear h
    go_enter Tryd.func73, Tryd.ntmps73
    go_wp2_with fail
    refine c.mono ?_
    rintro x w1 ⟨rfl, ⟨b', hR⟩, hB⟩
    have cf := rfFail_any p s k b' w1 hR
    go_wp2_with fail
    refine cf.mono ?_
    rintro x w2 ⟨rfl, hR2, hB2⟩
    go_wp2_with fail
    go_ret
    exact ⟨rfl, ⟨k, hk, hR2⟩, hB.trans hB2⟩
  · unfold RefNum at c
    unfold RefReads
    dsimp only at c ⊢
    clear h
    go_enter Tryd.func73, Tryd.ntmps73
    go_wp2_with fail
    refine c.mono ?_
    rintro x w1 ⟨rfl, hF, ⟨k', h1, h2, h3, hR⟩, hB⟩
    go_wp2_with fail
    go_ret
    exact ⟨rfl, ⟨k', h2, h3, hR⟩, hB⟩
set_option maxHeartbeats 1000000 in
theorem rfText_any (p : Nat) (s : ByteArray) (hs : s.size ≤ 100000000) (k : Nat) (hk : k ≤ s.size) (b : Bool) (w : World) (h : RfAt w p s k b) :
    Calls Tryd.prog 74 #[.pointer (some ⟨p, 0, none⟩)] w (RefReads p s Value.string (.string ⟨#[]⟩) (if b = true then none else txtP (s.data.toList.drop k)) w) := by
  have c := rfNumber_any p s hs k hk b 58 w h
  have e : (if b = true then none else txtP (s.data.toList.drop k)) = match (if b = true then none else numP (s.data.toList.drop k) 58) with
      | some (n, r) => if n < 0 ∨ (r.length : Int) < n then none else some ((⟨(r.take n.toNat).toArray⟩ : ByteArray), r.drop n.toNat)
      | none => none := by
    cases b
    · simp only [Bool.false_eq_true, if_false]
      unfold txtP textP
      rcases numP (s.data.toList.drop k) 58 with _ | ⟨n, r⟩
      · rfl
      · simp only; split <;> rfl
    · rfl
  rw [e]
  clear e
  generalize (if b = true then none else numP (s.data.toList.drop k) 58) = z at c ⊢
  have HSZ := Lib.hid (ba_size s)
  rcases z with _ | ⟨n, r⟩
  · unfold RefNum at c
    unfold RefReads
    dsimp only at c ⊢
    clear h
    go_enter Tryd.func74, Tryd.ntmps74
    go_wp2_with fail
    refine c.mono ?_
    rintro x w1 ⟨rfl, ⟨b', hR⟩, hB⟩
    have cf := rfFail_any p s k b' w1 hR
    go_wp2_with fail
    refine cf.mono ?_
    rintro x w2 ⟨rfl, hR2, hB2⟩
    go_wp2_with fail
    go_ret
    exact ⟨rfl, ⟨k, hk, hR2⟩, hB.trans hB2⟩
  · by_cases h1 : n < 0
    · have hk2 : n < 0 ∨ (r.length : Int) < n := .inl h1
      dsimp only
      rw [if_pos hk2]
      unfold RefNum at c
      unfold RefReads
      dsimp only at c ⊢
      clear h hk2
      go_enter Tryd.func74, Tryd.ntmps74
      go_wp2_with fail
      refine c.mono ?_
      rintro x w1 ⟨rfl, hF, ⟨k', g1, g2, -, hR⟩, hB⟩
      have cf := rfFail_any p s k' false w1 hR
      go_wp2_with fail
      refine cf.mono ?_
      rintro x w2 ⟨rfl, hR2, hB2⟩
      go_wp2_with fail
      go_ret
      exact ⟨rfl, ⟨k', g2, hR2⟩, hB.trans hB2⟩
    · by_cases h2 : (r.length : Int) < n
      · have hk2 : n < 0 ∨ (r.length : Int) < n := .inr h2
        dsimp only
        rw [if_pos hk2]
        unfold RefNum at c
        unfold RefReads
        dsimp only at c ⊢
        clear h hk2
        go_enter Tryd.func74, Tryd.ntmps74
        go_wp2_with fail
        refine c.mono ?_
        rintro x w1 ⟨rfl, hF, ⟨k', g1, g2, g3, hR⟩, hB⟩
        have hrl : (r.length : Int) = (s.size : Int) - k' := by rw [g3, List.length_drop, ← HSZ.out]; omega
        have cl := rfLeft_any p s hs k' g2 false w1 hR
        rw [if_neg (by decide), ← hrl] at cl
        go_wp2_with fail
        refine cl.mono ?_
        rintro x w2 ⟨rfl, hb2⟩
        have cf := rfFail_any p s k' false w2 (hR.below hb2)
        clear cl g3
        go_wp2_with fail
        refine cf.mono ?_
        rintro x w3 ⟨rfl, hR2, hB2⟩
        go_wp2_with fail
        go_ret
        exact ⟨rfl, ⟨k', g2, hR2⟩, (hB.trans (But.of hb2)).trans hB2⟩
      · have hk2 : ¬ (n < 0 ∨ (r.length : Int) < n) := by omega
        dsimp only
        rw [if_neg hk2]
        unfold RefNum at c
        unfold RefReads
        dsimp only at c ⊢
        clear h hk2
        go_enter Tryd.func74, Tryd.ntmps74
        go_wp2_with fail
        refine c.mono ?_
        rintro x w1 ⟨rfl, hF, ⟨k', g1, g2, g3, hR⟩, hB⟩
        have hrl : (r.length : Int) = (s.size : Int) - k' := by rw [g3, List.length_drop, ← HSZ.out]; omega
        have cl := rfLeft_any p s hs k' g2 false w1 hR
        rw [if_neg (by decide), ← hrl] at cl
        go_wp2_with fail
        refine cl.mono ?_
        rintro x w2 ⟨rfl, hb2⟩
        replace hR := hR.below hb2
        replace hB := hB.trans (But.of hb2)
        obtain ⟨m, hm⟩ : ∃ m : Nat, n = m := ⟨n.toNat, by omega⟩
        subst hm
        have hw : IntKind.i64.wrap ((k' : Int) + m) = ((k' + m : Nat) : Int) := by rw [IntWalk.i64_in _ (by omega)]; omega
        have hi0 : (0 : Int) ≤ k' := by omega
        have hi1 : (k' : Int) ≤ ((k' + m : Nat) : Int) := by omega
        have hi2 : ((k' + m : Nat) : Int) ≤ s.size := by omega
        have hext : s.extract k' (k' + m) = ⟨(r.take m).toArray⟩ := ba_ext (by rw [g3]; simp [ByteArray.data_extract])
        have HD := Lib.hid (show r.drop m = s.data.toList.drop (k' + m) by rw [g3, List.drop_drop])
        have hpl := hR.lt
        obtain ⟨⟨k0, k1, k2⟩, l0, l1, l2⟩ := id hR
        obtain ⟨q, hq⟩ : ∃ q, k' + m = q := ⟨_, rfl⟩
        rw [hq] at hw hi1 hi2 hext HD
        clear cl g3 hrl
        go_wp2_with fail
        go_quiet (fail)
        have hRd : RfAt (w2.drewN nq) p s k' false := hR
        have hS := hRd.move q
        have hB3 := (hB.trans (But.of (below_drewN' (Below.refl _ _) nq))).set 1 (.int .i64 (q : Nat))
        go_wp2_with fail
        go_ret
        exact ⟨rfl, ⟨q, by omega, by simpa using HD.out, hS⟩, hB3⟩
end Go.Proofs.YtnkbelbalaeieaaDoor.Wr
