/- WireNothing: walked once. -/
import Derived.Test.YtfnlihadibnnoaaDoorWLv
namespace Go.Proofs.YtfnlihadibnnoaaDoor
open Go Go.RowKit Go.Sort Go.Lib

theorem empty_none (k : Nat) (hk : k ≤ 3) : decN k [] := decN_of (by decide +kernel) (by decide +kernel) (by decide +kernel) (by decide +kernel) k hk
theorem RdAt.but {w w' : World} {p q : Nat} {s : ByteArray} {b : Bool} (h : RdAt w p s b) (hB : But q w w') (hne : q ≠ p) : RdAt w' p s b :=
  h.grown hB.grown (fun e => hne (by injection e))
set_option maxHeartbeats 4000000 in
set_option maxRecDepth 100000 in
theorem nothing_any (c : Int) (h0 : 0 ≤ c) (_h1 : c ≤ 255) (w : World) (hr : Ready w) :
    Calls Tryd.prog 9 #[.int .u8 c] w fun e w' => e = .returned (.bool true) ∧ RowKit.Below w.heap.size w w' := by
  obtain ⟨k, hk, hm⟩ : ∃ k : Nat, k ≤ 3 ∧ c.tmod 4 = k := ⟨(c.tmod 4).toNat, by rw [Int.tmod_eq_emod_of_nonneg h0]; omega, by rw [Int.tmod_eq_emod_of_nonneg h0]; omega⟩
  go_enter Tryd.func9, Tryd.ntmps9
  go_wp2_with fail
  refine (sanity_any _ hr).mono ?_
  rintro x w1 ⟨rfl, hb⟩
  replace hr := hr.below hb
  have hB := hb
  clear hb
  have hR1 := rd_new w1 ⟨#[]⟩ false 53
  have hP1 := hr.past (p := w1.heap.size) (Nat.le_refl _)
  have hq1 : w.heap.size ≤ w1.heap.size := hB.size
  go_wp2_with fail
  refine (new_any _ _).mono ?_
  rintro x w2 ⟨p, rfl, hp, hR2, hb⟩
  have hq2 : w1.heap.size ≤ p := by simp at hp; omega
  have hP2 := hr.past (p := p) hq2
  have hne : w1.heap.size ≠ p := by simp at hp; omega
  replace hR1 := hR1.below hb
  replace hB := mb1 hB hb
  replace hr := (hr.alloc _).below hb
  clear hb hp
  go_wp2_with fail
  have hc0 : (w2.alloc (.cells #[.pointer none, .pointer (some ⟨w1.heap.size, 0, none⟩), .pointer (some ⟨p, 0, none⟩)] 32)).cell? ⟨w2.heap.size, 0, none⟩ = some (.pointer none) := Lib.cell_of_heap (heap_alloc_new w2 _) 0
  have hc1 : (w2.alloc (.cells #[.pointer none, .pointer (some ⟨w1.heap.size, 0, none⟩), .pointer (some ⟨p, 0, none⟩)] 32)).cell? ⟨w2.heap.size, 1, none⟩ = some (.pointer (some ⟨w1.heap.size, 0, none⟩)) := Lib.cell_of_heap (heap_alloc_new w2 _) 1
  have hc2 : (w2.alloc (.cells #[.pointer none, .pointer (some ⟨w1.heap.size, 0, none⟩), .pointer (some ⟨p, 0, none⟩)] 32)).cell? ⟨w2.heap.size, 2, none⟩ = some (.pointer (some ⟨p, 0, none⟩)) := Lib.cell_of_heap (heap_alloc_new w2 _) 2
  have hg2 := hR2.lt
  have hg1 := hR1.lt
  replace hR1 := hR1.below (below_alloc1 w2 (.cells #[.pointer none, .pointer (some ⟨w1.heap.size, 0, none⟩), .pointer (some ⟨p, 0, none⟩)] 32))
  replace hR2 := hR2.below (below_alloc1 w2 (.cells #[.pointer none, .pointer (some ⟨w1.heap.size, 0, none⟩), .pointer (some ⟨p, 0, none⟩)] 32))
  replace hB := below_next hB (below_alloc1 w2 (.cells #[.pointer none, .pointer (some ⟨w1.heap.size, 0, none⟩), .pointer (some ⟨p, 0, none⟩)] 32))
  replace hr := hr.alloc (.cells #[.pointer none, .pointer (some ⟨w1.heap.size, 0, none⟩), .pointer (some ⟨p, 0, none⟩)] 32)
  generalize w2.alloc (.cells #[.pointer none, .pointer (some ⟨w1.heap.size, 0, none⟩), .pointer (some ⟨p, 0, none⟩)] 32) = w3 at hR1 hR2 hB hr hc0 hc1 hc2 ⊢
  have hbn := bad_nil w3
  have hln := left_nil w3
  have hdn := decodes_nil k hk w3
  refine wp_loop_rounds 4 ?_
  rw [rounds_succ]
  go_wp2_with fail
  refine hln.mono ?_
  rintro x _ ⟨rfl, rfl⟩
  go_wp2_with fail
  refine hbn.mono ?_
  rintro x _ ⟨rfl, rfl⟩
  go_wp2_with fail
  refine hdn.mono ?_
  rintro x _ ⟨rfl, rfl⟩
  go_wp2_with fail
  refine hbn.mono ?_
  rintro x _ ⟨rfl, rfl⟩
  go_wp2_with fail
  refine hln.mono ?_
  rintro x _ ⟨rfl, rfl⟩
  go_wp2_with fail
  clear hbn hln hdn
  rw [rounds_succ]
  have cl := left_any w1.heap.size _ _ _ hR1
  have cb := bad_any w1.heap.size _ _ _ hR1
  rw [if_neg (by decide)] at cl
  have cd := decodes_none w1.heap.size hP1 [] (by simp) false k hk (.inr (empty_none k hk)) _ hR1 hr
  unfold Spent at cd
  go_wp2_with fail
  refine cl.mono ?_
  rintro x _ ⟨rfl, rfl⟩
  go_wp2_with fail
  refine cb.mono ?_
  rintro x _ ⟨rfl, rfl⟩
  go_wp2_with fail
  refine cd.mono ?_
  rintro x w4 ⟨rfl, hR, hb⟩
  replace hc1 := hb.cell (by omega) hc1
  replace hc2 := hb.cell (by omega) hc2
  replace hR2 := hR2.but hb hne
  have hsz := hB.size
  replace hB := hB.trans (hb.below (by omega) hsz)
  replace hr := hr.but hb hP1
  clear cl cb cd hb hR1
  have cl := left_any w1.heap.size _ _ _ hR
  have cb := bad_any w1.heap.size _ _ _ hR
  rw [if_pos rfl] at cl
  go_wp2_with fail
  refine cb.mono ?_
  rintro x _ ⟨rfl, rfl⟩
  go_wp2_with fail
  refine cl.mono ?_
  rintro x _ ⟨rfl, rfl⟩
  go_wp2_with fail
  clear cl cb
  rw [rounds_succ]
  have cl := left_any p _ _ _ hR2
  have cb := bad_any p _ _ _ hR2
  rw [if_neg (by decide)] at cl
  have cd := decodes_none p hP2 [] (by simp) false k hk (.inr (empty_none k hk)) _ hR2 hr
  unfold Spent at cd
  go_wp2_with fail
  refine cl.mono ?_
  rintro x _ ⟨rfl, rfl⟩
  go_wp2_with fail
  refine cb.mono ?_
  rintro x _ ⟨rfl, rfl⟩
  go_wp2_with fail
  refine cd.mono ?_
  rintro x w5 ⟨rfl, hR, hb⟩
  replace hc1 := hb.cell (by omega) hc1
  replace hc2 := hb.cell (by omega) hc2
  have hsz := hB.size
  replace hB := hB.trans (hb.below (by omega) hsz)
  replace hr := hr.but hb hP2
  clear cl cb cd hb hR2
  have cl := left_any p _ _ _ hR
  have cb := bad_any p _ _ _ hR
  rw [if_pos rfl] at cl
  go_wp2_with fail
  refine cb.mono ?_
  rintro x _ ⟨rfl, rfl⟩
  go_wp2_with fail
  refine cl.mono ?_
  rintro x _ ⟨rfl, rfl⟩
  go_wp2_with fail
  clear cl cb
  rw [rounds_succ]
  go_wp2_with fail
  go_ret
  exact ⟨rfl, hB⟩
end Go.Proofs.YtfnlihadibnnoaaDoor
