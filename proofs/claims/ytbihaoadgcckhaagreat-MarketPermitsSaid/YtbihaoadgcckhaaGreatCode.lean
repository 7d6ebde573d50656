/- course.Code and the reference's Code return the same: whether a text is 1 to 8 letters and digits. -/
import Derived.Test.YtbihaoadgcckhaaGreatBase
import Derived.Laws.RangeString
import Derived.Laws.RangeAny
import Derived.LoopTactic
namespace Go.Proofs.YtbihaoadgcckhaaGreat
open Go Go.RowKit Go.Sort Go.Lib

/-- Is a rune (or a byte) no capital letter and no digit? -/
def wrongR (r : Nat) : Bool := (decide (r < 65) || decide (90 < r)) && (decide (r < 48) || decide (57 < r))
def codeL (l : List UInt8) : Bool := decide (1 ≤ l.length) && decide (l.length ≤ 8) && l.all (fun c => !wrongR c.toNat)

theorem wrong_high (r : Nat) (h : 128 ≤ r) : wrongR r = true := by
  have a : 90 < r := by omega
  have b : 57 < r := by omega
  simp [wrongR, a, b]

theorem idx_all (s : ByteArray) (f pos : Nat) (hf : s.size ≤ f + pos) : decide (Lib.idxFuncFrom wrongR true s f pos < 0) = (s.data.toList.drop pos).all (fun c => !wrongR c.toNat) := by
  induction f generalizing pos with
  | zero =>
    have h1 : s.data.toList.drop pos = [] := List.drop_eq_nil_of_le (by rw [← ba_size]; omega)
    rw [h1]; simp [Lib.idxFuncFrom]
  | succ f ih =>
    by_cases hp : pos < s.size
    · have hl : pos < s.data.toList.length := by rw [← ba_size]; exact hp
      have hg : s.data.toList[pos]'hl = s[pos]'hp := rfl
      rw [List.drop_eq_getElem_cons hl, List.all_cons, hg]
      unfold Lib.idxFuncFrom
      rw [if_pos hp]
      by_cases ha : (s[pos]'hp).toNat < 128
      · rw [decode_ascii s pos hp ha]
        by_cases hw : wrongR (s[pos]'hp).toNat = true
        · rw [if_pos hw, hw]; simp
        · have hw' : wrongR (s[pos]'hp).toNat = false := by simpa using hw
          rw [if_neg hw, hw', ih (pos + 1) (by omega)]; simp
      · have hd := decode_high s pos hp (by omega)
        have hw := wrong_high _ hd.1
        have hw2 := wrong_high (s[pos]'hp).toNat (by omega)
        rw [if_pos hw, hw2]; simp
    · have h1 : s.data.toList.drop pos = [] := List.drop_eq_nil_of_le (by rw [← ba_size]; omega)
      rw [h1, Lib.idxFuncFrom_end _ _ _ _ _ hp]; rfl

theorem pred_wrong (w : World) : PredAt Tryz.prog 95 #[] encR wrongR w := fun W r _ => by
  unfold FnGives
  by_cases h1 : r < 65 <;> by_cases h2 : 90 < r <;> by_cases h3 : r < 48 <;> by_cases h4 : 57 < r
  all_goals first | (exfalso; omega) | skip
  all_goals
    go_enter Tryz.func95, Tryz.ntmps95
    go_wp2
    all_goals first | (exfalso; omega) | (go_ret; exact ⟨by simp [wrongR, h1, h2, h3, h4] <;> omega, 0, rfl⟩)

theorem code_any (s : ByteArray) (w : World) (hs : s.size ≤ 1000000) :
    Calls Tryz.prog 71 #[.string s] w fun e w' => e = .returned (.bool (codeL s.data.toList)) ∧ Below w.heap.size w w' := by
  have hC := fun W => Tryz.strings_IndexFunc 95 #[] (enters_of Tryz.func95 (by kernel_rfl) rfl) wrongR s W (pred_wrong W)
  have hi := idx_all s s.size 0 (by omega)
  have hsz := ba_size s
  have hz : Lib.idxFunc wrongR true s = Lib.idxFuncFrom wrongR true s s.size 0 := rfl
  rw [← hz, List.drop_zero] at hi
  clear hz
  by_cases h0 : s.data.toList = []
  · have hr : codeL s.data.toList = false := by simp [codeL, h0]
    have h1 : (!s.toList.isEmpty) = false := by rw [ByteArray.toList_eq]; simp [h0]
    have h2 : s.toList = [] := by rw [ByteArray.toList_eq]; exact h0
    have H := Lib.hid hr
    clear hr hC hi h0 hsz
    go_enter Tryz.func71, Tryz.ntmps71
    go_wp2_with fail
    go_ret
    exact ⟨ret_bool H.out.symm, Below.refl _ _⟩
  · have h1 : (!s.toList.isEmpty) = true := by rw [ByteArray.toList_eq]; simpa using h0
    have h2 : ¬ s.toList = [] := by rw [ByteArray.toList_eq]; exact h0
    by_cases h8 : s.size ≤ 8
    · have hr : codeL s.data.toList = s.data.toList.all (fun c => !wrongR c.toNat) := by
        have : 1 ≤ s.data.toList.length := by rcases h : s.data.toList with _ | ⟨a, l⟩; exact absurd h h0; simp
        have h9 : s.data.toList.length ≤ 8 := by omega
        simp only [codeL, this, h9, decide_true, Bool.true_and]
      rw [← hi] at hr
      have H := Lib.hid hr
      clear hr hi h0 hsz
      go_enter Tryz.func71, Tryz.ntmps71
      go_wp2_with fail
      refine (hC _).mono ?_
      rintro x w1 ⟨rfl, hb⟩
      go_wp2_with fail
      go_ret
      exact ⟨ret_bool H.out.symm, hb⟩
    · have hr : codeL s.data.toList = false := by
        have h9 : ¬ s.data.toList.length ≤ 8 := by omega
        simp only [codeL, h9, decide_false, Bool.and_false, Bool.false_and]
      have H := Lib.hid hr
      clear hr hC hi h0 hsz
      go_enter Tryz.func71, Tryz.ntmps71
      go_wp2_with fail
      go_ret
      exact ⟨ret_bool H.out.symm, Below.refl _ _⟩

theorem all_snoc (l : List UInt8) (k : Nat) (h : k < l.length) (p : UInt8 → Bool) : (l.take (k + 1)).all p = ((l.take k).all p && p l[k]) := by
  rw [List.take_succ_eq_append_getElem h, List.all_append]; simp

theorem refCode_any (s : ByteArray) (w : World) (hs : s.size ≤ 1000000) :
    Calls Tryz.prog 77 #[.string s] w fun e w' => e = .returned (.bool (codeL s.data.toList)) ∧ w = w' := by
  go_enter Tryz.func77, Tryz.ntmps77
  go_wp2_with fail
  go_loop [3] (fun i => ∃ k : Nat, k ≤ s.size ∧ i = .int .i64 k ∧ Hid ((s.data.toList.take k).all (fun c => !wrongR c.toNat) = true)) (fun i => s.size - (intOf i).toNat)
  case atStart => exact ⟨0, Nat.zero_le _, rfl, rfl⟩
  case round =>
    obtain ⟨k, hk, rfl, H⟩ := hrel
    by_cases hlt : k < s.size
    · have hl : k < s.data.toList.length := by rw [← ba_size]; exact hlt
      have hts := all_snoc s.data.toList k hl (fun c => !wrongR c.toNat)
      have hg : s.data.toList[k]'hl = s[k]'hlt := rfl
      rw [hg] at hts
      by_cases h1 : (65 : Int) ≤ (s[k].toNat : Int) <;> by_cases h2 : (s[k].toNat : Int) ≤ 90 <;> by_cases h3 : (48 : Int) ≤ (s[k].toNat : Int) <;> by_cases h4 : (s[k].toNat : Int) ≤ 57
      all_goals first | (exfalso; omega) | skip
      all_goals
        have h1' : s[k].toNat < 65 ↔ ¬ (65 : Int) ≤ (s[k].toNat : Int) := by omega
        have h2' : 90 < s[k].toNat ↔ ¬ (s[k].toNat : Int) ≤ 90 := by omega
        have h3' : s[k].toNat < 48 ↔ ¬ (48 : Int) ≤ (s[k].toNat : Int) := by omega
        have h4' : 57 < s[k].toNat ↔ ¬ (s[k].toNat : Int) ≤ 57 := by omega
        have hw : wrongR s[k].toNat = ((decide (s[k].toNat < 65) || decide (90 < s[k].toNat)) && (decide (s[k].toNat < 48) || decide (57 < s[k].toNat))) := rfl
        simp only [h1', h2', h3', h4', h1, h2, h3, h4, not_true_eq_false, not_false_eq_true, decide_true, decide_false, Bool.or_true, Bool.or_false, Bool.and_true, Bool.and_false] at hw
        have HT := Lib.hid hts
        have HW := Lib.hid hw
        clear hts hw h1' h2' h3' h4' hg
        go_wp2_with fail
        first
          | (go_round
             case rel => exact ⟨k + 1, by omega, by go_num, by unfold Hid; rw [HT.out, HW.out, H.out]; rfl⟩
             case measure => simp [intOf]; omega)
          | (go_ret
             exact ⟨ret_bool (by
               have hall : s.data.toList.all (fun c => !wrongR c.toNat) = false := by
                 have h5 : (s.data.toList.take (k + 1)).all (fun c => !wrongR c.toNat) = false := by rw [HT.out, HW.out]; simp
                 rw [← Bool.not_eq_true, List.all_eq_true] at h5 ⊢
                 exact fun h6 => h5 fun x hx => h6 x (List.mem_of_mem_take hx)
               simp [codeL, hall]), rfl⟩)
    · obtain rfl : k = s.size := by omega
      have e1 : s.data.toList.take s.size = s.data.toList := by rw [ba_size]; exact List.take_length
      rw [e1] at H
      clear hlt e1 hk
      by_cases hs1 : 1 ≤ s.size
      · have hs1' : (1 : Int) ≤ (s.size : Int) := by omega
        go_wp2_with fail
        go_ret
        exact ⟨ret_bool (by simp only [codeL, H.out, ← ba_size]; simp [hs1]; omega), rfl⟩
      · have hs0 : s.data.toList = [] := by rw [← List.length_eq_zero_iff, ← ba_size]; omega
        have HS := Lib.hid hs0
        clear hs0
        go_wp2_with fail
        go_ret
        exact ⟨ret_bool (by rw [HS.out]; rfl), rfl⟩
end Go.Proofs.YtbihaoadgcckhaaGreat
