/- key.message and the reference's whole: each walked once. -/
import Derived.Test.YtnkbelbalaeieaaDoorEDec
namespace Go.Proofs.YtnkbelbalaeieaaDoor
open Go Go.RowKit Go.Sort Go.Lib

/-- What is marked: the school, the key's number, the text. -/
def msgOf (sc id : Int) (t : ByteArray) : List UInt8 := Lib.itoa sc ++ 32 :: (Lib.itoa id ++ 32 :: t.data.toList)
theorem message_any (b : Nat) (sc id : Int) (t : ByteArray) (hs : I64 sc) (hi : I64 id) (ht : t.size ≤ 1000000) (w : World) (hc : w.cell? ⟨b, 0, none⟩ = some (.int .i64 sc)) (hT : Tabs w) :
    Calls Tryd.prog 66 #[.pointer (some ⟨b, 0, none⟩), .int .i64 id, .string t] w fun e w' => e = .returned (.string ⟨(msgOf sc id t).toArray⟩) ∧ Below w.heap.size w w' := by
  have l1 := Lib.itoa_length_le sc hs.1 hs.2
  have l2 := Lib.itoa_length_le id hi.1 hi.2
  have HM : Hid (msgOf sc id t = Lib.itoa sc ++ 32 :: (Lib.itoa id ++ 32 :: t.data.toList)) := Lib.hid rfl
  go_enter Tryd.func66, Tryd.ntmps66
  go_wp2_with fail
  refine (itoa_any sc w hs.1 hs.2 hT).mono ?_
  rintro _ w1 ⟨rfl, hb⟩
  go_wp2_with fail
  refine (itoa_any id w1 hi.1 hi.2 (hT.below hb)).mono ?_
  rintro _ w2 ⟨rfl, hb2⟩
  generalize Lib.itoa sc = A at l1 HM ⊢
  generalize Lib.itoa id = B at l2 HM ⊢
  have k1 : ¬ 9223372036854775807 < A.length + 1 := by omega
  have k2 : ¬ 9223372036854775807 < A.length + 1 + B.length := by omega
  have k3 : ¬ 9223372036854775807 < A.length + 1 + B.length + 1 := by omega
  have k4 : ¬ 9223372036854775807 < A.length + 1 + B.length + 1 + t.size := by omega
  go_wp2_with fail
  go_ret
  exact ⟨ret_str (by rw [HM.out]; exact ba_ext (by simp)), hb.trans (hb2.mono hb.size)⟩
theorem whole_any (sc id : Int) (ks : Value) (t : ByteArray) (hs : I64 sc) (hi : I64 id) (ht : t.size ≤ 1000000) (w : World) :
    Calls Tryd.prog 88 #[.agg #[.int .i64 sc, ks], .int .i64 id, .string t] w fun e w' => e = .returned (.string ⟨(msgOf sc id t).toArray⟩) ∧ Below w.heap.size w w' := by
  have l1 := Lib.itoa_length_le sc hs.1 hs.2
  have l2 := Lib.itoa_length_le id hi.1 hi.2
  have HM : Hid (msgOf sc id t = Lib.itoa sc ++ 32 :: (Lib.itoa id ++ 32 :: t.data.toList)) := Lib.hid rfl
  go_enter Tryd.func88, Tryd.ntmps88
  go_wp2_with fail
  have hba := below_alloc1 w (.cells #[.int .i64 sc, ks] 40)
  refine (keyDec_any sc _ hs).mono ?_
  rintro _ w1 ⟨rfl, hb1⟩
  have hb := hba.trans (hb1.mono hba.size)
  go_wp2_with fail
  refine (keyDec_any id w1 hi).mono ?_
  rintro _ w2 ⟨rfl, hb2⟩
  generalize Lib.itoa sc = A at l1 HM ⊢
  generalize Lib.itoa id = B at l2 HM ⊢
  have k1 : ¬ 9223372036854775807 < A.length + 1 := by omega
  have k2 : ¬ 9223372036854775807 < A.length + 1 + B.length := by omega
  have k3 : ¬ 9223372036854775807 < A.length + 1 + B.length + 1 := by omega
  have k4 : ¬ 9223372036854775807 < A.length + 1 + B.length + 1 + t.size := by omega
  go_wp2_with fail
  go_ret
  exact ⟨ret_str (by rw [HM.out]; exact ba_ext (by simp)), hb.trans (hb2.mono hb.size)⟩
end Go.Proofs.YtnkbelbalaeieaaDoor
