/- course.Code and the reference's Code return the same: whether a text is 1 to 8 letters and digits. -/
import Derived.Test.YtjcogpalmgcpbaaBase
import Derived.Laws.RangeString
import Derived.Laws.RangeAny
import Derived.LoopTactic
namespace Go.Proofs.Ytjcogpalmgcpbaa
open Go Go.RowKit Go.Sort Go.Lib

/-- Is a rune (or a byte) no capital letter and no digit? -/
def wrongR (r : Nat) : Bool := (decide (r < 65) || decide (90 < r)) && (decide (r < 48) || decide (57 < r))
def codeL (l : List UInt8) : Bool := decide (1 ≤ l.length) && decide (l.length ≤ 8) && l.all (fun c => !wrongR c.toNat)

theorem wrong_high (r : Nat) (h : 128 ≤ r) : wrongR r = true := by
  have a : 90 < r := by omega
  have b : 57 < r := by omega
  simp [wrongR, a, b]

theorem idx_all (s : ByteArray) (f pos : Nat) (hf : s.size ≤ f + pos) : decide (Lib.idxFuncFrom wrongR true s f pos < 0) = (s.data.toList.drop pos).all (fun c => !wrongR c.toNat) := by
  induction f generalizing pos with
  | zero =>
    have h1 : s.data.toList.drop pos = [] := List.drop_eq_nil_of_le (by rw [← ba_size]; omega)
    rw [h1]; simp [Lib.idxFuncFrom]
  | succ f ih =>
    by_cases hp : pos < s.size
    · have hl : pos < s.data.toList.length := by rw [← ba_size]; exact hp
      have hg : s.data.toList[pos]'hl = s[pos]'hp := rfl
      rw [List.drop_eq_getElem_cons hl, List.all_cons, hg]
      unfold Lib.idxFuncFrom
      rw [if_pos hp]
      by_cases ha : (s[pos]'hp).toNat < 128
      · rw [decode_ascii s pos hp ha]
        by_cases hw : wrongR (s[pos]'hp).toNat = true
        · rw [if_pos hw, hw]; simp
        · have hw' : wrongR (s[pos]'hp).toNat = false := by simpa using hw
          rw [if_neg hw, hw', ih (pos + 1) (by omega)]; simp
      · have hd := decode_high s pos hp (by omega)
        have hw := wrong_high _ hd.1
        have hw2 := wrong_high (s[pos]'hp).toNat (by omega)
        rw [if_pos hw, hw2]; simp
    · have h1 : s.data.toList.drop pos = [] := List.drop_eq_nil_of_le (by rw [← ba_size]; omega)
      rw [h1, Lib.idxFuncFrom_end _ _ _ _ _ hp]; rfl

theorem pred_wrong (w : World) : PredAt Try.prog 53 #[] encR wrongR w := fun W r _ => by
  unfold FnGives
  by_cases h1 : r < 65 <;> by_cases h2 : 90 < r <;> by_cases h3 : r < 48 <;> by_cases h4 : 57 < r
  all_goals first | (exfalso; omega) | skip
  all_goals
    go_enter Try.func53, Try.ntmps53
    go_wp2
    all_goals first | (exfalso; omega) | (go_ret; exact ⟨by simp [wrongR, h1, h2, h3, h4] <;> omega, 0, rfl⟩)

theorem code_any (s : ByteArray) (w : World) (hs : s.size ≤ 1000000) :
    Calls Try.prog 47 #[.string s] w fun e w' => e = .returned (.bool (codeL s.data.toList)) ∧ Below w.heap.size w w' := by
  have hC := fun W => Try.strings_IndexFunc 53 #[] (enters_of Try.func53 (by kernel_rfl) rfl) wrongR s W (pred_wrong W)
  have hi := idx_all s s.size 0 (by omega)
  have hsz := ba_size s
  have hz : Lib.idxFunc wrongR true s = Lib.idxFuncFrom wrongR true s s.size 0 := rfl
  rw [← hz, List.drop_zero] at hi
  clear hz
  by_cases h0 : s.data.toList = []
  · have hr : codeL s.data.toList = false := by simp [codeL, h0]
    have h1 : (!s.toList.isEmpty) = false := by rw [ByteArray.toList_eq]; simp [h0]
    have h2 : s.toList = [] := by rw [ByteArray.toList_eq]; exact h0
    have H := Lib.hid hr
    clear hr hC hi h0 hsz
    go_enter Try.func47, Try.ntmps47
    go_wp2_with fail
    go_ret
    exact ⟨ret_bool H.out.symm, Below.refl _ _⟩
  · have h1 : (!s.toList.isEmpty) = true := by rw [ByteArray.toList_eq]; simpa using h0
    have h2 : ¬ s.toList = [] := by rw [ByteArray.toList_eq]; exact h0
    by_cases h8 : s.size ≤ 8
    · have hr : codeL s.data.toList = s.data.toList.all (fun c => !wrongR c.toNat) := by
        have : 1 ≤ s.data.toList.length := by rcases h : s.data.toList with _ | ⟨a, l⟩; exact absurd h h0; simp
        have h9 : s.data.toList.length ≤ 8 := by omega
        simp only [codeL, this, h9, decide_true, Bool.true_and]
      rw [← hi] at hr
      have H := Lib.hid hr
      clear hr hi h0 hsz
      go_enter Try.func47, Try.ntmps47
      go_wp2_with fail
      refine (hC _).mono ?_
      rintro x w1 ⟨rfl, hb⟩
      go_wp2_with fail
      go_ret
      exact ⟨ret_bool H.out.symm, hb⟩
    · have hr : codeL s.data.toList = false := by
        have h9 : ¬ s.data.toList.length ≤ 8 := by omega
        simp only [codeL, h9, decide_false, Bool.and_false, Bool.false_and]
      have H := Lib.hid hr
      clear hr hC hi h0 hsz
      go_enter Try.func47, Try.ntmps47
      go_wp2_with fail
      go_ret
      exact ⟨ret_bool H.out.symm, Below.refl _ _⟩

theorem all_snoc (l : List UInt8) (k : Nat) (h : k < l.length) (p : UInt8 → Bool) : (l.take (k + 1)).all p = ((l.take k).all p && p l[k]) := by
  rw [List.take_succ_eq_append_getElem h, List.all_append]; simp





















































end Go.Proofs.Ytjcogpalmgcpbaa
