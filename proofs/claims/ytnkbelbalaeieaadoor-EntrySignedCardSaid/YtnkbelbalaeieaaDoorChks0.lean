/- What Made returns is right, in every school; what the two keys of a ring sign. -/
import Derived.Test.YtnkbelbalaeieaaDoorSgnT
import Derived.Test.YtnkbelbalaeieaaDoorMade
namespace Go.Proofs.YtnkbelbalaeieaaDoor
open Go Go.RowKit Go.Sort Go.Lib
/-- What Made returns is right. -/
theorem good_rightN {sc : Int} {e : Ent} (g : Good sc e) (hsc : 1 ≤ sc ∧ sc ≤ 8) : chkV e = 0 := by
  obtain ⟨h1, h2, h3, h4, h5, h6, h7, h8, h9, h10, h11, h12, h13, h14⟩ := g
  have hp : plainE e = e := by
    rw [plain_eq]
    refine ⟨?_, ?_, ?_, ?_, ?_, ?_, ?_⟩
    · by_cases h : e.kind = 3 <;> simp [h] at h9 ⊢; exact h9.1
    · by_cases h : e.kind = 3 <;> simp [h] at h9 ⊢; exact h9.2
    · by_cases h : e.kind = 3 ∨ e.kind = 4
      · exact .inl h
      · rw [if_neg h] at h10; exact .inr h10
    · by_cases h : e.kind = 4 ∨ e.kind = 5 ∨ e.kind = 6 ∨ e.kind = 9
      · exact .inl h
      · rw [if_neg h] at h11; exact .inr h11
    · by_cases h : e.kind = 7
      · exact .inl h
      · rw [if_neg h] at h12; exact .inr h12
    · by_cases h : e.kind = 1 ∨ e.kind = 8 ∨ e.kind = 2
      · exact .inl h
      · rw [if_neg h] at h13; exact .inr h13
    · by_cases h : e.kind = 2
      · exact .inl h
      · rw [if_neg h] at h14; exact .inr h14
  have hf := plain_ok e h4
  rw [(eqE_iff _ _).2 hp] at hf
  have bn : ∀ n lo hi : Int, lo ≤ n → n ≤ hi → beyondB n lo hi = false := fun n lo hi a b => by rw [beyond_not]; simp [betweenB, a, b]
  have hcode : ∀ s ∈ codesL, codeL s.data.toList = true := by decide
  unfold chkV
  rw [if_neg (by rw [bn _ _ _ (by omega) (by omega), bn _ _ _ (by omega) (by omega), bn _ _ _ (by omega) (by omega)]; simp), if_neg (by rw [← hf, bn _ _ _ (by omega) (by omega)]; simp), if_neg (by rw [bn _ _ _ (by omega) (by omega), bn _ _ _ (by omega) (by omega)]; simp)]
  have hk : e.kind = 1 ∨ e.kind = 2 ∨ e.kind = 3 ∨ e.kind = 4 ∨ e.kind = 5 ∨ e.kind = 6 ∨ e.kind = 7 ∨ e.kind = 8 ∨ e.kind = 9 := by omega
  clear hf hp
  unfold ruleFrom
  have p0 : (bits .and .i64 (hasv e.kind) 1 != 0) = true → (!codeL e.course.data.toList) = true → False := fun a b => by
    rcases hk with h | h | h | h | h | h | h | h | h <;> rw [h] at a h9 <;> first | exact absurd a (by decide +kernel) | (simp at h9; rw [hcode _ h9.1] at b; exact absurd b (by decide))
  have p1 : (bits .and .i64 (hasv e.kind) 2 != 0) = true → beyondB e.credits 1 60 = true → False := fun a b => by
    rcases hk with h | h | h | h | h | h | h | h | h <;> rw [h] at a h9 <;> first | exact absurd a (by decide +kernel) | (simp at h9; rw [bn _ _ _ (by omega) (by omega)] at b; exact absurd b (by decide))
  have p2 : (bits .and .i64 (hasv e.kind) 4 != 0) = true → beyondB e.grade (-1000) 1000 = true → False := fun a b => by
    rcases hk with h | h | h | h | h | h | h | h | h <;> rw [h] at a h10 <;> first | exact absurd a (by decide +kernel) | (simp at h10; rw [bn _ _ _ (by omega) (by omega)] at b; exact absurd b (by decide))
  have p3 : (bits .and .i64 (hasv e.kind) 32 != 0) = true → decide (e.programme < 1) = true → False := fun a b => by
    rcases hk with h | h | h | h | h | h | h | h | h <;> rw [h] at a h13 <;> first | exact absurd a (by decide +kernel) | (simp at h13 b; omega)
  have p4 : (bits .and .i64 (hasv e.kind) 64 != 0) = true → decide (e.version < 1) = true → False := fun a b => by
    rcases hk with h | h | h | h | h | h | h | h | h <;> rw [h] at a h14 <;> first | exact absurd a (by decide +kernel) | (simp at h14 b; omega)
  have p5 : (bits .and .i64 (hasv e.kind) 16 != 0) = true → (beyondB e.fro 1 8 || e.fro == e.school) = true → False := fun a b => by
    rcases hk with h | h | h | h | h | h | h | h | h <;> rw [h] at a h12 <;> first | exact absurd a (by decide +kernel) | (simp at h12; rw [bn _ _ _ (by omega) (by omega)] at b; simp at b; omega)
  have p6 : (bits .and .i64 (hasv e.kind) 8 != 0) = true → (beyondB e.ref 1 899999 || e.ref == e.id) = true → False := fun a b => by
    rcases hk with h | h | h | h | h | h | h | h | h <;> rw [h] at a h11 <;> first | exact absurd a (by decide +kernel) | (simp at h11; rw [bn _ _ _ (by omega) (by omega)] at b; simp at b; omega)
  rw [if_neg (fun x => p0 x.2.1 x.2.2), if_neg (fun x => p1 x.2.1 x.2.2), if_neg (fun x => p2 x.2.1 x.2.2), if_neg (fun x => p3 x.2.1 x.2.2), if_neg (fun x => p4 x.2.1 x.2.2), if_neg (fun x => p5 x.2.1 x.2.2), if_neg (fun x => p6 x.2.1 x.2.2)]
theorem chk_bare (e : Ent) (k : Int) (m : ByteArray) : chkV { e with key := k, mark := m } = chkV e := rfl
theorem sig_size (k : KeyE) (sc id : Int) (t : ByteArray) : (sigOf k sc id t).size = 8 := rfl
/-- What both keys of the statements' ring sign: an entry, and one that the other key has signed. -/
theorem ring_signs (f sc : Int) (e : Ent) (hc : chkV e = 0) (hs : e.school = sc) : ∃ m1 m4 : ByteArray, m1.size = 8 ∧ signE (ringL f) sc 1 e = ({ e with key := 1, mark := m1 }, 0) ∧ signE (ringL f) sc 4 e = ({ e with key := 4, mark := m4 }, 0) ∧
    signE (ringL f) sc 4 { e with key := 1, mark := m1 } = ({ e with key := 4, mark := m4 }, 0) ∧ chkV { e with key := 1, mark := m1 } = 0 ∧ m1 = sigOf ⟨1, ⟨#[113, 117, 105, 108, 108]⟩, 0, 0⟩ sc 1 ⟨({ e with key := 1, mark := m1 } : Ent).body.toArray⟩ := by
  refine ⟨sigOf ⟨1, ⟨#[113, 117, 105, 108, 108]⟩, 0, 0⟩ sc 1 ⟨({ e with key := 1 } : Ent).body.toArray⟩, sigOf ⟨4, ⟨#[114, 101, 101, 100]⟩, f, 0⟩ sc 4 ⟨({ e with key := 4 } : Ent).body.toArray⟩, rfl, ?_, ?_, ?_, hc, rfl⟩
  · rw [signE_eq, if_neg (by simp [hc]), if_neg (by simp [hs]), if_neg (by rw [keySig_some (k := ⟨1, ⟨#[113, 117, 105, 108, 108]⟩, 0, 0⟩) rfl]; simp)]
    rw [keySig_some (k := ⟨1, ⟨#[113, 117, 105, 108, 108]⟩, 0, 0⟩) rfl]
  · rw [signE_eq, if_neg (by simp [hc]), if_neg (by simp [hs]), if_neg (by rw [keySig_some (k := ⟨4, ⟨#[114, 101, 101, 100]⟩, f, 0⟩) rfl]; simp)]
    rw [keySig_some (k := ⟨4, ⟨#[114, 101, 101, 100]⟩, f, 0⟩) rfl]
  · rw [signE_eq, if_neg (by rw [chk_bare]; simp [hc]), if_neg (by simp [hs]), if_neg (by rw [keySig_some (k := ⟨4, ⟨#[114, 101, 101, 100]⟩, f, 0⟩) rfl]; simp)]
    rw [keySig_some (k := ⟨4, ⟨#[114, 101, 101, 100]⟩, f, 0⟩) rfl]
    rfl
end Go.Proofs.YtnkbelbalaeieaaDoor
