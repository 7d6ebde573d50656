/- Parse of the project at every text; the reference's decimal, Text, number, Parse. -/
import Derived.Test.YtmbjoenegcnoiaaDoorQTxP
import Derived.Test.YtmbjoenegcnoiaaDoorQParse
import Derived.Shelf.Strconv.ErrVarAll
namespace Go.Proofs.YtmbjoenegcnoiaaDoor
open Go Go.RowKit Go.Sort Go.Lib

/-- The library's two errors of numbers lie in their variables. -/
def ErrVars (w : World) : Prop := (∃ tp p, w.var? Tryd.prog "strconv.ErrSyntax" = some #[.iface tp p]) ∧ ∃ tp p, w.var? Tryd.prog "strconv.ErrRange" = some #[.iface tp p]
theorem var_below {w w' : World} {n : String} {cs : Array Value} (h : w.var? Tryd.prog n = some cs) (hb : RowKit.Below w.heap.size w w') : w'.var? Tryd.prog n = some cs := by
  unfold World.var? at *
  cases hg : Tryd.prog.globalNamed n with
  | none => simp only [hg] at h; cases h
  | some g =>
    simp only [hg, Option.bind_some] at h ⊢
    have hlt : g < w.heap.size := by
      rcases Nat.lt_or_ge g w.heap.size with hx | hx
      · exact hx
      · rw [Array.getElem?_eq_none hx] at h; cases h
    rw [hb.block g hlt]; exact h
theorem ErrVars.below {w w' : World} (h : ErrVars w) (hb : RowKit.Below w.heap.size w w') : ErrVars w' := by
  obtain ⟨⟨t1, p1, h1⟩, t2, p2, h2⟩ := h
  exact ⟨⟨t1, p1, var_below h1 hb⟩, t2, p2, var_below h2 hb⟩
def AtoiBad (w : World) (e : Ending) (w' : World) : Prop := ∃ (n : Int) (t : TypeId) (a : Addr), e = .returned (.tuple #[.int .i64 n, .iface t (.pointer (some a))]) ∧ RowKit.Below w.heap.size w w'
theorem atoi_bad (s : ByteArray) (hs : s.size ≤ 4294967280) (h : ∀ v, Lib.atoiAll s.data.toList ≠ .ok v) (w : World) (hv : ErrVars w) :
    Calls Tryd.prog 42 #[.string s] w (AtoiBad w) := by
  obtain ⟨⟨t1, p1, h1⟩, t2, p2, h2⟩ := hv
  rcases hx : Lib.atoiAll s.data.toList with v | _ | _
  · exact absurd hx (h v)
  · exact (Any.strconv_Atoi_syntax_var Tryd.laysC172 s (by omega) hx t1 p1 w h1).mono fun e w' ⟨N, he, _, _, hb⟩ => ⟨_, _, _, he, hb⟩
  · exact (Any.strconv_Atoi_range_var Tryd.laysC172 s (by omega) hx t2 p2 w h2).mono fun e w' ⟨N, he, _, _, hb⟩ => ⟨_, _, _, he, hb⟩
theorem atoi_i64 {l : List UInt8} {n : Int} (h : Lib.atoiAll l = .ok n) : I64 n := by
  unfold Lib.atoiAll at h
  split at h
  · cases h
  · simp only at h
    split at h
    · cases h
    · cases h
    · split at h
      · cases h
      · split at h
        · cases h
        · injection h with h
          subst h
          unfold I64
          split <;> omega
theorem cut_len (s sep : List UInt8) : (Lib.cut s sep).1.length ≤ s.length ∧ (Lib.cut s sep).2.1.length ≤ s.length := by
  unfold Lib.cut
  split
  · exact ⟨by simp [List.length_take]; omega, by simp [List.length_drop]⟩
  · exact ⟨Nat.le_refl _, Nat.zero_le _⟩
/-- A bad number ends the parse. -/
def PBad (w : World) (e : Ending) (w' : World) : Prop := e = .returned (.tuple #[Rt.val ⟨0, 0⟩, .bool false]) ∧ RowKit.Below w.heap.size w w'
/-- How Atoi's two results are: an error, or none. -/
def AtoiEnd (bad : Bool) (w : World) (e : Ending) (w' : World) : Prop := ∃ (n : Int) (t : TypeId) (a : Addr), e = .returned (.tuple #[.int .i64 n, if bad = true then .iface t (.pointer (some a)) else .nilIface]) ∧ RowKit.Below w.heap.size w w'
theorem atoi_end (s : ByteArray) (hs : s.size ≤ 4294967280) (bad : Bool) (h : bad = true ↔ ∀ v, Lib.atoiAll s.data.toList ≠ .ok v) (w : World) (hv : ErrVars w) :
    Calls Tryd.prog 42 #[.string s] w (AtoiEnd bad w) := by
  cases bad
  · have : ∃ v, Lib.atoiAll s.data.toList = .ok v := by
      refine Classical.byContradiction fun hn => ?_
      have := h.2 (fun v e => hn ⟨v, e⟩)
      cases this
    obtain ⟨v, hx⟩ := this
    exact (atoi_ok s hs v hx w).mono fun e w' ⟨he, hb⟩ => ⟨v, 0, ⟨0, 0, none⟩, he, hb⟩
  · exact (atoi_bad s hs (h.1 rfl) w hv).mono fun e w' ⟨n, t, a, he, hb⟩ => ⟨n, t, a, he, hb⟩
set_option maxHeartbeats 2000000 in
theorem parse_bad (s : ByteArray) (hs : s.size ≤ 1000000) (u v : List UInt8) (b : Bool) (hc : Lib.cut s.data.toList [47] = (u, v, b)) (hu : u.length ≤ 1000000) (hv : v.length ≤ 1000000) (x y : Bool) (h1 : x = true ↔ ∀ n, Lib.atoiAll u ≠ .ok n) (h2 : y = true ↔ ∀ n, Lib.atoiAll (if b = true then v else [49]) ≠ .ok n) (hxy : x = true ∨ y = true) (w : World) (ht : Sane w) (he : ErrVars w) :
    Calls Tryd.prog 16 #[.string s] w (PBad w) := by
  have cc := fun w ht => cut_any s ⟨#[47]⟩ w ht (by omega)
  rw [show (⟨#[47]⟩ : ByteArray).data.toList = [47] from rfl, hc] at cc
  have a1 := fun w he => atoi_end ⟨u.toArray⟩ (by simp [ByteArray.size]; omega) x (by simpa using h1) w he
  clear h1 hc
  have hxy' : (x = false ∧ y = true) ∨ (x = true ∧ y = false) ∨ (x = true ∧ y = true) := by revert hxy; cases x <;> cases y <;> simp
  clear hxy
  have b0 := below_alloc1 w (.cells #[.int .i64 0, .int .i64 0] 24)
  cases b
  · have a2 := fun w he => atoi_end ⟨#[49]⟩ (by simp [ByteArray.size]) y (by simpa using h2) w he
    clear h2
    rcases hxy' with ⟨rfl, rfl⟩ | ⟨rfl, rfl⟩ | ⟨rfl, rfl⟩
    all_goals
      go_enter Tryd.func16, Tryd.ntmps16
      go_wp2_with fail
      have ht0 := ht.below b0
      have he0 := he.below b0
      refine (cc _ ht0).mono ?_
      rintro z w1 ⟨rfl, hb1⟩
      go_wp2_with fail
      refine (a1 _ (he0.below hb1)).mono ?_
      rintro z w2 ⟨n2, t2, p2, rfl, hb2⟩
      simp only [Bool.false_eq_true, if_false, if_true]
      have hb12 := below_next hb1 hb2
      go_wp2_with fail
      refine (a2 _ (he0.below hb12)).mono ?_
      rintro z w3 ⟨n3, t3, p3, rfl, hb3⟩
      simp only [Bool.false_eq_true, if_false, if_true]
      have hb := below_next hb12 hb3
      have hz : w.heap.size < w3.heap.size := by have h1 := hb.size; simp at h1; omega
      obtain ⟨hc4, hf4⟩ := bcell hb
      have k0 : w3.cell? ⟨w.heap.size, 0, none⟩ = some (.int .i64 0) := (hc4 _ _ (by simp)).trans (by simp [go_sem])
      have k1 : w3.cell? ⟨w.heap.size, 1, none⟩ = some (.int .i64 0) := (hc4 _ _ (by simp)).trans (by simp [go_sem])
      have f0 : w3.frozen? ⟨w.heap.size, 0, none⟩ = false := (hf4 _ _ (by simp)).trans (by simp [go_sem])
      have f1 : w3.frozen? ⟨w.heap.size, 1, none⟩ = false := (hf4 _ _ (by simp)).trans (by simp [go_sem])
      have hbw : RowKit.Below w.heap.size w w3 := b0.trans (hb.mono b0.size)
      clear hb1 hb2 hb3 hb hb12 hc4 hf4 ht0 ht a1 a2 cc b0 he he0
      go_wp2_with fail
      exact bodyPost_ret (v := .tuple #[.agg #[.int .i64 0, .int .i64 0], .bool false]) (by simp [results, Tryd.results16, go_sem, k0, k1, hz]) rfl ⟨rfl, fin3 hbw _ _ _⟩
  · have a2 := fun w he => atoi_end ⟨v.toArray⟩ (by simp [ByteArray.size]; omega) y (by simpa using h2) w he
    clear h2
    rcases hxy' with ⟨rfl, rfl⟩ | ⟨rfl, rfl⟩ | ⟨rfl, rfl⟩
    all_goals
      go_enter Tryd.func16, Tryd.ntmps16
      go_wp2_with fail
      have ht0 := ht.below b0
      have he0 := he.below b0
      refine (cc _ ht0).mono ?_
      rintro z w1 ⟨rfl, hb1⟩
      go_wp2_with fail
      refine (a1 _ (he0.below hb1)).mono ?_
      rintro z w2 ⟨n2, t2, p2, rfl, hb2⟩
      simp only [Bool.false_eq_true, if_false, if_true]
      have hb12 := below_next hb1 hb2
      go_wp2_with fail
      refine (a2 _ (he0.below hb12)).mono ?_
      rintro z w3 ⟨n3, t3, p3, rfl, hb3⟩
      simp only [Bool.false_eq_true, if_false, if_true]
      have hb := below_next hb12 hb3
      have hz : w.heap.size < w3.heap.size := by have h1 := hb.size; simp at h1; omega
      obtain ⟨hc4, hf4⟩ := bcell hb
      have k0 : w3.cell? ⟨w.heap.size, 0, none⟩ = some (.int .i64 0) := (hc4 _ _ (by simp)).trans (by simp [go_sem])
      have k1 : w3.cell? ⟨w.heap.size, 1, none⟩ = some (.int .i64 0) := (hc4 _ _ (by simp)).trans (by simp [go_sem])
      have f0 : w3.frozen? ⟨w.heap.size, 0, none⟩ = false := (hf4 _ _ (by simp)).trans (by simp [go_sem])
      have f1 : w3.frozen? ⟨w.heap.size, 1, none⟩ = false := (hf4 _ _ (by simp)).trans (by simp [go_sem])
      have hbw : RowKit.Below w.heap.size w w3 := b0.trans (hb.mono b0.size)
      clear hb1 hb2 hb3 hb hb12 hc4 hf4 ht0 ht a1 a2 cc b0 he he0
      go_wp2_with fail
      exact bodyPost_ret (v := .tuple #[.agg #[.int .i64 0, .int .i64 0], .bool false]) (by simp [results, Tryd.results16, go_sem, k0, k1, hz]) rfl ⟨rfl, fin3 hbw _ _ _⟩
theorem parse_any (s : ByteArray) (hs : s.size ≤ 1000000) (w : World) (ht : Sane w) (he : ErrVars w) :
    Calls Tryd.prog 16 #[.string s] w fun e w' => e = .returned (.tuple #[(parseV s.data.toList).1.val, .bool (parseV s.data.toList).2]) ∧ RowKit.Below w.heap.size w w' := by
  obtain ⟨l1, l2⟩ := cut_len s.data.toList [47]
  have hsz : s.data.toList.length = s.size := (ba_size s).symm
  rcases hc : Lib.cut s.data.toList [47] with ⟨u, v, b⟩
  rw [hc] at l1 l2
  dsimp only at l1 l2
  by_cases h1 : ∃ n, Lib.atoiAll u = .ok n
  · by_cases h2 : ∃ d, Lib.atoiAll (if b = true then v else [49]) = .ok d
    · obtain ⟨n, h1⟩ := h1
      obtain ⟨d, h2⟩ := h2
      refine (parse_ok s hs u v b ⟨n, d⟩ ⟨atoi_i64 h1, atoi_i64 h2⟩ hc (by omega) (by omega) h1 h2 w ht).mono fun e w' h => ?_
      have hP : parseV s.data.toList = if (textL ⟨n, d⟩ == s.data.toList) = true then (⟨n, d⟩, true) else (⟨0, 0⟩, false) := by
        unfold parseV
        rw [hc]
        simp only [h1, h2]
      unfold PPost at h
      rw [ByteArray.toList_eq] at h
      rw [hP]
      cases hB : (textL ⟨n, d⟩ == s.data.toList)
      · rw [hB] at h; exact h
      · rw [hB] at h; exact h
    · have hb := parse_bad s hs u v b hc (by omega) (by omega) false true (by simp only [Bool.false_eq_true, false_iff]; intro h; obtain ⟨n, h1⟩ := h1; exact h n h1) (by simp only [true_iff]; intro n e; exact h2 ⟨n, e⟩) (.inr rfl) w ht he
      refine hb.mono fun e w' h => ?_
      have hP : parseV s.data.toList = (⟨0, 0⟩, false) := by
        unfold parseV
        rw [hc]
        split
        · rename_i n d e1 e2; exact absurd ⟨d, e2⟩ h2
        · rfl
      rw [hP]; exact h
  · have hy : ∃ y : Bool, (y = true ↔ ∀ n, Lib.atoiAll (if b = true then v else [49]) ≠ .ok n) := by
      by_cases h2 : ∀ n, Lib.atoiAll (if b = true then v else [49]) ≠ .ok n
      · exact ⟨true, by simp only [true_iff]; exact h2⟩
      · exact ⟨false, by simp only [Bool.false_eq_true, false_iff]; exact h2⟩
    obtain ⟨y, hy⟩ := hy
    have hb := parse_bad s hs u v b hc (by omega) (by omega) true y (by simp only [true_iff]; intro n e; exact h1 ⟨n, e⟩) hy (.inl rfl) w ht he
    refine hb.mono fun e w' h => ?_
    have hP : parseV s.data.toList = (⟨0, 0⟩, false) := by
      unfold parseV
      rw [hc]
      split
      · rename_i n d e1 e2; exact absurd ⟨n, e1⟩ h1
      · rfl
    rw [hP]; exact h
end Go.Proofs.YtmbjoenegcnoiaaDoor
