/- The small functions of the ratio packages: size, within, gcd, right: each walked once. -/
import Derived.Test.YtmbjoenegcnoiaaDoorQBase
namespace Go.Proofs.YtmbjoenegcnoiaaDoor
open Go Go.RowKit Go.Sort Go.Lib

theorem size_any (n : Int) (h : I64 n) (w : World) :
    Calls Tryd.prog 46 #[.int .i64 n] w fun e w' => e = .returned (.int .u64 (n.natAbs : Int)) ∧ w = w' := by
  by_cases hn : n < 0
  · have H := Lib.hid (u64_neg h hn)
    unfold I64 at h
    go_enter Tryd.func46, Tryd.ntmps46
    go_wp2_with fail
    go_ret
    exact ⟨ret_int H.out, rfl⟩
  · have H := Lib.hid (show n = n.natAbs by omega)
    unfold I64 at h
    go_enter Tryd.func46, Tryd.ntmps46
    go_wp2_with fail
    go_ret
    exact ⟨ret_int H.out, rfl⟩
theorem refSize_any (n : Int) (h : I64 n) (w : World) :
    Calls Tryd.prog 31 #[.int .i64 n] w fun e w' => e = .returned (.int .u64 (n.natAbs : Int)) ∧ w = w' := by
  by_cases hn : n < 0
  · have H := Lib.hid (u64_neg h hn)
    unfold I64 at h
    go_enter Tryd.func31, Tryd.ntmps31
    go_wp2_with fail
    go_ret
    exact ⟨ret_int H.out, rfl⟩
  · have H := Lib.hid (show n = n.natAbs by omega)
    unfold I64 at h
    go_enter Tryd.func31, Tryd.ntmps31
    go_wp2_with fail
    go_ret
    exact ⟨ret_int H.out, rfl⟩

theorem within_any (lo n hi : Int) (w : World) :
    Calls Tryd.prog 37 #[.int .i64 lo, .int .i64 n, .int .i64 hi] w fun e w' => e = .returned (.bool (decide (lo ≤ n) && decide (n ≤ hi))) ∧ w = w' := by
  by_cases h : lo ≤ n
  · have hd : decide (lo ≤ n) = true := by simpa using h
    go_enter Tryd.func37, Tryd.ntmps37
    go_wp2
    go_ret
    exact ⟨ret_bool (by simp [hd]), rfl⟩
  · have hd : decide (lo ≤ n) = false := by simpa using h
    go_enter Tryd.func37, Tryd.ntmps37
    go_wp2
    go_ret
    exact ⟨ret_bool (by simp), rfl⟩

theorem gcd_step (x y : Nat) : y.gcd (x % y) = x.gcd y := by rw [Nat.gcd_comm y, ← Nat.gcd_rec, Nat.gcd_comm]
/-- The reference's gcd. -/
theorem refGcd_any (a b : Nat) (ha : a ≤ 9223372036854775808) (hb : b ≤ 9223372036854775808) (w : World) :
    Calls Tryd.prog 30 #[.int .u64 a, .int .u64 b] w fun e w' => e = .returned (.int .u64 (a.gcd b : Nat)) ∧ RowKit.Below w.heap.size w w' := by
  obtain ⟨g, hg⟩ : ∃ g, a.gcd b = g := ⟨_, rfl⟩
  rw [hg]
  have HG := Lib.hid hg
  clear hg
  go_enter Tryd.func30, Tryd.ntmps30
  go_wp2_with fail
  go_loopw [0, 1] (fun x y wr => ∃ c d : Nat, x = .int .u64 c ∧ y = .int .u64 d ∧ c ≤ 9223372036854775808 ∧ d ≤ 9223372036854775808 ∧ Hid (c.gcd d = g) ∧ RowKit.Below w.heap.size w wr) (fun _ y _ => (RowKit.intOf y).toNat)
  case atStart => exact ⟨a, b, rfl, rfl, ha, hb, HG, Below.refl _ _⟩
  case round =>
    obtain ⟨c, d, rfl, rfl, hc, hd, H, hbr⟩ := hrel
    by_cases h0 : d = 0
    · subst h0
      go_wp2_with fail
      go_ret
      exact ⟨ret_int (by rw [← H.out, Nat.gcd_zero_right]), hbr⟩
    · have h1 : ((d : Int) != 0) = true := by simp; omega
      have h2 : ((d : Int) == 0) = false := by simp; omega
      have hl := Nat.mod_lt c (show 0 < d by omega)
      clear h0
      have H2 : Hid (d.gcd (c % d) = g) := Lib.hid (by rw [gcd_step]; exact H.out)
      clear H
      go_wp2_with fail
      go_region
      go_roundw
      case rel => ((repeat apply Exists.intro); exact ⟨⟨d, c % d, rfl, by go_num, hd, by omega, H2, hbr.drew⟩, rfl⟩)
      case measure => simp [RowKit.intOf]; omega
/-- The project's gcd, of two. -/
theorem gcd_any (a b : Nat) (B : Nat) (ha : a ≤ 9223372036854775808) (hb : b ≤ 9223372036854775808) (w : World) (h0 : w.cell? ⟨B, 0, none⟩ = some (.int .u64 a)) (h1 : w.cell? ⟨B, 1, none⟩ = some (.int .u64 b)) :
    Calls Tryd.prog 45 #[.slice (some ⟨B, 0, none⟩) 2 2] w fun e w' => e = .returned (.int .u64 (a.gcd b : Nat)) ∧ RowKit.Below w.heap.size w w' := by
  have hlt := World.block_lt_of_cell? w _ h0
  go_enter Tryd.func45, Tryd.ntmps45
  go_wp2_with fail
  go_loopw [3, 8] (fun x k wr => ∃ (i c : Nat), k = .int .i64 i ∧ x = .int .u64 c ∧ i ≤ 2 ∧ c ≤ 9223372036854775808 ∧ Hid (c = if i = 0 then 0 else if i = 1 then a else a.gcd b) ∧ RowKit.Below w.heap.size w wr) (fun _ k _ => 2 - (RowKit.intOf k).toNat)
  case atStart => exact ⟨0, 0, rfl, rfl, by omega, by omega, Lib.hid rfl, Below.refl _ _⟩
  case round =>
    obtain ⟨i, c, rfl, rfl, hi, hc, H, hbr⟩ := hrel
    by_cases hi2 : i < 2
    · obtain ⟨v, hv, hcell, H3⟩ : ∃ v : Nat, v ≤ 9223372036854775808 ∧ wr.cell? ⟨B, i, none⟩ = some (.int .u64 v) ∧ Hid (c.gcd v = if i = 0 then a else a.gcd b) := by
        rcases Nat.lt_or_ge i 1 with h | h
        · obtain rfl : i = 0 := by omega
          exact ⟨a, ha, by rw [(bcell hbr).1 _ _ hlt]; exact h0, Lib.hid (by rw [H.out]; simp)⟩
        · obtain rfl : i = 1 := by omega
          exact ⟨b, hb, by rw [(bcell hbr).1 _ _ hlt]; exact h1, Lib.hid (by rw [H.out]; simp)⟩
      obtain ⟨g, hg⟩ : ∃ g, c.gcd v = g := ⟨_, rfl⟩
      have HG := Lib.hid hg
      have HG2 : Hid (g = if i + 1 = 0 then 0 else if i + 1 = 1 then a else a.gcd b) := Lib.hid (by
        rw [← hg, H3.out]
        rcases Nat.lt_or_ge i 1 with h | h
        · obtain rfl : i = 0 := by omega
          simp
        · obtain rfl : i = 1 := by omega
          simp)
      clear H H3 h0 h1 hg
      go_wp2_with fail
      go_loopw [3, 5] (fun x y wq => ∃ c d : Nat, x = .int .u64 c ∧ y = .int .u64 d ∧ c ≤ 9223372036854775808 ∧ d ≤ 9223372036854775808 ∧ Hid (c.gcd d = g) ∧ RowKit.Below w.heap.size w wq) (fun _ y _ => (RowKit.intOf y).toNat)
      case atStart => exact ⟨c, v, rfl, rfl, hc, hv, HG, hbr⟩
      case round =>
        obtain ⟨c, d, rfl, rfl, hc, hd, H, hbq⟩ := hrel
        clear hcell hbr
        by_cases h0 : d = 0
        · subst h0
          have hcg : c = g := by rw [← H.out, Nat.gcd_zero_right]
          subst hcg
          go_wp2_with fail
          go_roundw
          case rel => exact ⟨i + 1, c, by go_num, rfl, by omega, hc, HG2, hbq⟩
          case measure => simp [RowKit.intOf]; omega
        · have h1 : ((d : Int) != 0) = true := by simp; omega
          have h2 : ((d : Int) == 0) = false := by simp; omega
          have hl := Nat.mod_lt c (show 0 < d by omega)
          clear h0
          have H2 : Hid (d.gcd (c % d) = g) := Lib.hid (by rw [gcd_step]; exact H.out)
          clear H
          go_wp2_with fail
          go_region
          go_roundw
          case rel => ((repeat apply Exists.intro); exact ⟨⟨d, c % d, rfl, by go_num, hd, by omega, H2, hbq.drew⟩, rfl⟩)
          case measure => simp [RowKit.intOf]; omega
    · obtain rfl : i = 2 := by omega
      go_wp2_with fail
      go_ret
      exact ⟨ret_int (by rw [H.out]; simp), hbr⟩
end Go.Proofs.YtmbjoenegcnoiaaDoor
