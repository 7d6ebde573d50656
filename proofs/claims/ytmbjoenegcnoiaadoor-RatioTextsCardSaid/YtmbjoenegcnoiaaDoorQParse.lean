/- Parse of the project, where both parts are numbers: walked once. -/
import Derived.Test.YtmbjoenegcnoiaaDoorQText
namespace Go.Proofs.YtmbjoenegcnoiaaDoor
open Go Go.RowKit Go.Sort Go.Lib

theorem atoi_ok (s : ByteArray) (hs : s.size ≤ 4294967280) (v : Int) (h : Lib.atoiAll s.data.toList = .ok v) (w : World) :
    Calls Tryd.prog 42 #[.string s] w fun e w' => e = .returned (.tuple #[.int .i64 v, .nilIface]) ∧ RowKit.Below w.heap.size w w' :=
  (Tryd.strconv_Atoi_ok s (by omega) v h w).mono fun e w' ⟨he, hw⟩ => ⟨he, by
    rcases hw with rfl | ⟨t, rfl⟩
    · exact Below.refl _ _
    · exact Lib.bytesWorld_below _ _ _⟩
theorem cut_any (s sep : ByteArray) (w : World) (h : Sane w) (hs : s.size ≤ 4294967280) :
    Calls Tryd.prog 41 #[.string s, .string sep] w fun e w' => e = .returned (.tuple #[.string ⟨(Lib.cut s.data.toList sep.data.toList).1.toArray⟩, .string ⟨(Lib.cut s.data.toList sep.data.toList).2.1.toArray⟩, .bool (Lib.cut s.data.toList sep.data.toList).2.2]) ∧ RowKit.Below w.heap.size w w' := by
  obtain ⟨_, m, hm⟩ := h
  exact (Tryd.strings_Cut s sep m w (by omega) hm).mono fun e w' ⟨he, n, hw⟩ => ⟨he, by rw [hw]; exact below_drewN (Below.refl _ _) n⟩
def PPost (s : ByteArray) (r : Rt) (w : World) (e : Ending) (w' : World) : Prop :=
  e = .returned (.tuple #[(if (textL r == s.toList) = true then r else ⟨0, 0⟩).val, .bool (textL r == s.toList)]) ∧ RowKit.Below w.heap.size w w'
set_option maxHeartbeats 1000000 in
theorem parse_ok (s : ByteArray) (hs : s.size ≤ 1000000) (u v : List UInt8) (b : Bool) (r : Rt) (hr : r.Ok) (hc : Lib.cut s.data.toList [47] = (u, v, b)) (hu : u.length ≤ 1000000) (hv : v.length ≤ 1000000) (h1 : Lib.atoiAll u = .ok r.n) (h2 : Lib.atoiAll (if b = true then v else [49]) = .ok r.d) (w : World) (ht : Sane w) :
    Calls Tryd.prog 16 #[.string s] w (PPost s r w) := by
  have cc := fun w ht => cut_any s ⟨#[47]⟩ w ht (by omega)
  rw [show (⟨#[47]⟩ : ByteArray).data.toList = [47] from rfl, hc] at cc
  have a1 := fun w => atoi_ok ⟨u.toArray⟩ (by simp [ByteArray.size]; omega) r.n (by simpa using h1) w
  have tx := fun w ht => text_any r hr w ht
  unfold Rt.val at tx
  clear h1 hc
  cases b
  · have a2 := fun w => atoi_ok ⟨#[49]⟩ (by simp [ByteArray.size]) r.d (by simpa using h2) w
    clear h2 hr
    go_enter Tryd.func16, Tryd.ntmps16
    go_wp2_with fail
    have b0 := below_alloc1 w (.cells #[.int .i64 0, .int .i64 0] 24)
    have ht0 := ht.below b0
    refine (cc _ ht0).mono ?_
    rintro x w1 ⟨rfl, hb1⟩
    go_wp2_with fail
    refine (a1 _).mono ?_
    rintro x w2 ⟨rfl, hb2⟩
    go_wp2_with fail
    refine (a2 _).mono ?_
    rintro x w3 ⟨rfl, hb3⟩
    have hb := below_next (below_next hb1 hb2) hb3
    have ht3 := ht0.below hb
    go_wp2_with fail
    refine (tx _ (ht3.below (below_alloc1 _ _)).1).mono ?_
    rintro x w4 ⟨rfl, hb4⟩
    have hz : w.heap.size < w4.heap.size := by have h1 := hb.size; have h2 := hb4.size; simp at h1 h2; omega
    obtain ⟨hc4, hf4⟩ := bcell (below_next hb (below_next (below_alloc1 _ _) hb4))
    have k0 : w4.cell? ⟨w.heap.size, 0, none⟩ = some (.int .i64 0) := (hc4 _ _ (by simp)).trans (by simp [go_sem])
    have k1 : w4.cell? ⟨w.heap.size, 1, none⟩ = some (.int .i64 0) := (hc4 _ _ (by simp)).trans (by simp [go_sem])
    have f0 : w4.frozen? ⟨w.heap.size, 0, none⟩ = false := (hf4 _ _ (by simp)).trans (by simp [go_sem])
    have f1 : w4.frozen? ⟨w.heap.size, 1, none⟩ = false := (hf4 _ _ (by simp)).trans (by simp [go_sem])
    have hz3 : w3.heap.size < w4.heap.size := by have h2 := hb4.size; simp at h2; omega
    have l0 : w4.cell? ⟨w3.heap.size, 0, none⟩ = some (.int .i64 r.n) := ((bcell hb4).1 _ _ (by simp)).trans (by simp [go_sem])
    have l1 : w4.cell? ⟨w3.heap.size, 1, none⟩ = some (.int .i64 r.d) := ((bcell hb4).1 _ _ (by simp)).trans (by simp [go_sem])
    have hbw : RowKit.Below w.heap.size w w4 := b0.trans ((below_next hb (below_next (below_alloc1 _ _) hb4)).mono b0.size)
    clear hb1 hb2 hb3 hb hb4 hc4 hf4 ht0 ht3 ht a1 a2 cc tx b0
    go_wp2_with fail
    · rename_i hT
      have hT' : (textL r == s.toList) = false := by simpa using hT
      exact bodyPost_ret (v := .tuple #[.agg #[.int .i64 0, .int .i64 0], .bool false]) (by simp [results, Tryd.results16, go_sem, k0, k1]) rfl ⟨by rw [hT']; rfl, (hbw.setCell (Nat.le_refl _) _).setCell (Nat.le_refl _) _⟩
    · rename_i hT
      have hT' : (textL r == s.toList) = true := by simpa using hT
      exact bodyPost_ret (v := .tuple #[.agg #[.int .i64 r.n, .int .i64 r.d], .bool true]) (by simp [results, Tryd.results16, go_sem, k0, k1]) rfl ⟨by rw [hT']; rfl, (hbw.setCell (Nat.le_refl _) _).setCell (Nat.le_refl _) _⟩
  · have a2 := fun w => atoi_ok ⟨v.toArray⟩ (by simp [ByteArray.size]; omega) r.d (by simpa using h2) w
    clear h2 hr
    go_enter Tryd.func16, Tryd.ntmps16
    go_wp2_with fail
    have b0 := below_alloc1 w (.cells #[.int .i64 0, .int .i64 0] 24)
    have ht0 := ht.below b0
    refine (cc _ ht0).mono ?_
    rintro x w1 ⟨rfl, hb1⟩
    go_wp2_with fail
    refine (a1 _).mono ?_
    rintro x w2 ⟨rfl, hb2⟩
    go_wp2_with fail
    refine (a2 _).mono ?_
    rintro x w3 ⟨rfl, hb3⟩
    have hb := below_next (below_next hb1 hb2) hb3
    have ht3 := ht0.below hb
    go_wp2_with fail
    refine (tx _ (ht3.below (below_alloc1 _ _)).1).mono ?_
    rintro x w4 ⟨rfl, hb4⟩
    have hz : w.heap.size < w4.heap.size := by have h1 := hb.size; have h2 := hb4.size; simp at h1 h2; omega
    obtain ⟨hc4, hf4⟩ := bcell (below_next hb (below_next (below_alloc1 _ _) hb4))
    have k0 : w4.cell? ⟨w.heap.size, 0, none⟩ = some (.int .i64 0) := (hc4 _ _ (by simp)).trans (by simp [go_sem])
    have k1 : w4.cell? ⟨w.heap.size, 1, none⟩ = some (.int .i64 0) := (hc4 _ _ (by simp)).trans (by simp [go_sem])
    have f0 : w4.frozen? ⟨w.heap.size, 0, none⟩ = false := (hf4 _ _ (by simp)).trans (by simp [go_sem])
    have f1 : w4.frozen? ⟨w.heap.size, 1, none⟩ = false := (hf4 _ _ (by simp)).trans (by simp [go_sem])
    have hz3 : w3.heap.size < w4.heap.size := by have h2 := hb4.size; simp at h2; omega
    have l0 : w4.cell? ⟨w3.heap.size, 0, none⟩ = some (.int .i64 r.n) := ((bcell hb4).1 _ _ (by simp)).trans (by simp [go_sem])
    have l1 : w4.cell? ⟨w3.heap.size, 1, none⟩ = some (.int .i64 r.d) := ((bcell hb4).1 _ _ (by simp)).trans (by simp [go_sem])
    have hbw : RowKit.Below w.heap.size w w4 := b0.trans ((below_next hb (below_next (below_alloc1 _ _) hb4)).mono b0.size)
    clear hb1 hb2 hb3 hb hb4 hc4 hf4 ht0 ht3 ht a1 a2 cc tx b0
    go_wp2_with fail
    · rename_i hT
      have hT' : (textL r == s.toList) = false := by simpa using hT
      exact bodyPost_ret (v := .tuple #[.agg #[.int .i64 0, .int .i64 0], .bool false]) (by simp [results, Tryd.results16, go_sem, k0, k1]) rfl ⟨by rw [hT']; rfl, (hbw.setCell (Nat.le_refl _) _).setCell (Nat.le_refl _) _⟩
    · rename_i hT
      have hT' : (textL r == s.toList) = true := by simpa using hT
      exact bodyPost_ret (v := .tuple #[.agg #[.int .i64 r.n, .int .i64 r.d], .bool true]) (by simp [results, Tryd.results16, go_sem, k0, k1]) rfl ⟨by rw [hT']; rfl, (hbw.setCell (Nat.le_refl _) _).setCell (Nat.le_refl _) _⟩
end Go.Proofs.YtmbjoenegcnoiaaDoor
