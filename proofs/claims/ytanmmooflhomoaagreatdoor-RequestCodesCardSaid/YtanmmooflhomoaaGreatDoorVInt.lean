/- The project's number, Int and Text of a reader, over all readers. -/
import Derived.Test.YtanmmooflhomoaaGreatDoorVNm2
namespace Go.Proofs.YtanmmooflhomoaaGreatDoor.Wr
open Go Go.RowKit Go.Sort Go.Lib

theorem atoi_i64 {l : List UInt8} {n : Int} (h : Lib.atoiAll l = .ok n) : -9223372036854775808 ≤ n ∧ n ≤ 9223372036854775807 := by
  unfold Lib.atoiAll at h
  split at h
  · cases h
  · simp only at h
    split at h
    · cases h
    · cases h
    · split at h
      · cases h
      · split at h
        · cases h
        · injection h with h
          subst h
          split <;> omega
theorem cut_len (s sep : List UInt8) : (Lib.cut s sep).1.length ≤ s.length ∧ (Lib.cut s sep).2.1.length ≤ s.length := by
  unfold Lib.cut
  split
  · exact ⟨by simp [List.length_take]; omega, by simp [List.length_drop]⟩
  · exact ⟨Nat.le_refl _, Nat.zero_le _⟩
/-- What a call of a reader comes to: a value and what is left, or nothing. -/
def Reads {α : Type} (p : Nat) (ok : α → Value) (bad : Value) (z : Option (α × List UInt8)) (w : World) (e : Ending) (w' : World) : Prop :=
  match z with
  | some (n, r) => e = .returned (ok n) ∧ RdAt w' p ⟨r.toArray⟩ false ∧ But p w w'
  | none => e = .returned bad ∧ RdAt w' p ⟨#[]⟩ true ∧ But p w w'
theorem number_any (p : Nat) (hp : Past p) (s : ByteArray) (hs : s.size ≤ 100000000) (b : Bool) (c : UInt8) (w : World) (h : RdAt w p s b) (ht : Sane w) (he : ErrVars w) :
    Calls Tryz.prog 63 #[.pointer (some ⟨p, 0, none⟩), .string ⟨#[c]⟩] w (Reads p (fun n => .tuple #[.int .i64 n, .bool true]) (.tuple #[.int .i64 0, .bool false]) (if b = true then none else numP s.data.toList c) w) := by
  cases b
  · rw [if_neg (by decide)]
    have hl := (cut_len s.data.toList [c]).1
    have hz := ba_size s
    rcases hc : Lib.cut s.data.toList [c] with ⟨u, v, x⟩
    rw [hc] at hl
    cases x
    · have e : numP s.data.toList c = none := by unfold numP; rw [hc]; rfl
      rw [e]
      exact number_cut p s hs c w h ht u v hc
    · have hu : u.length ≤ 100000000 := by simp only at hl; omega
      rcases ha : atoiAll u with n | _ | _
      · have hn := atoi_i64 ha
        by_cases hi : itoa n = u
        · have e : numP s.data.toList c = some (n, v) := by unfold numP; rw [hc]; simp only [if_true, ha, hi]
          rw [e]
          exact number_ok p hp s hs c w h ht u v hu hc n hn ha hi
        · have e : numP s.data.toList c = none := by unfold numP; rw [hc]; simp only [if_true, ha, if_neg hi]
          rw [e]
          exact number_text p hp s hs c w h ht u v hu hc n hn ha hi
      · have e : numP s.data.toList c = none := by unfold numP; rw [hc]; simp only [if_true, ha]
        rw [e]
        exact number_atoi p hp s hs c w h ht u v hu hc he (fun n hx => by rw [ha] at hx; cases hx)
      · have e : numP s.data.toList c = none := by unfold numP; rw [hc]; simp only [if_true, ha]
        rw [e]
        exact number_atoi p hp s hs c w h ht u v hu hc he (fun n hx => by rw [ha] at hx; cases hx)
  · rw [if_pos rfl]
    exact number_bad p s c w h
theorem rdInt_any (p : Nat) (hp : Past p) (s : ByteArray) (hs : s.size ≤ 100000000) (b : Bool) (w : World) (h : RdAt w p s b) (ht : Sane w) (he : ErrVars w) :
    Calls Tryz.prog 37 #[.pointer (some ⟨p, 0, none⟩)] w (Reads p (fun n => .int .i64 n) (.int .i64 0) (if b = true then none else numP s.data.toList 59) w) := by
  have c := number_any p hp s hs b 59 w h ht he
  generalize (if b = true then none else numP s.data.toList 59) = z at c ⊢
  rcases z with _ | ⟨n, r⟩
  all_goals
    unfold Reads at c ⊢
    dsimp only at c ⊢
    clear h ht he
    go_enter Tryz.func37, Tryz.ntmps37
    go_wp2_with fail
    refine c.mono ?_
    rintro x w1 ⟨rfl, hR, hB⟩
    go_wp2_with fail
    go_ret
    exact ⟨rfl, hR, hB⟩
end Go.Proofs.YtanmmooflhomoaaGreatDoor.Wr
