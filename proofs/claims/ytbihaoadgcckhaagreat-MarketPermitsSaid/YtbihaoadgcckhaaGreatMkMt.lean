/- quadriviumref28.Met: who has met what. -/
import Derived.Test.YtbihaoadgcckhaaGreatMkSa
namespace Go.Proofs.YtbihaoadgcckhaaGreat
open Go Go.Proofs Go.RowKit Go.Maps Go.Sort Go.Lib
attribute [local go_sem] Seat.cells

/-- All seats of the students 1 to 5. -/
def metAll : List Seat := [1, 2, 3, 4, 5].flatMap fun s => codesL.map fun c => ⟨s, c⟩
def MetOk (bits : Int) (j : Nat) (M : List Seat) : Prop := M.length ≤ j ∧ (∀ s ∈ M, s.wf) ∧ (bits = 0 → M = metAll.take j)
theorem metAll_at {s k : Nat} (h1 : 1 ≤ s) (h5 : s ≤ 5) (hk : k < 6) {c : ByteArray} (hc : codesL[k]? = some c) : metAll[6 * (s - 1) + k]? = some ⟨s, c⟩ := by
  have hs : s = 1 ∨ s = 2 ∨ s = 3 ∨ s = 4 ∨ s = 5 := by omega
  have hkk : k = 0 ∨ k = 1 ∨ k = 2 ∨ k = 3 ∨ k = 4 ∨ k = 5 := by omega
  rcases hs with rfl | rfl | rfl | rfl | rfl <;> rcases hkk with rfl | rfl | rfl | rfl | rfl | rfl <;> (simp only [codesL] at hc; injection hc with hc; subst hc; rfl)
theorem MetOk.yes {bits : Int} {s k : Nat} {M : List Seat} {c : ByteArray} (h : MetOk bits (6 * (s - 1) + k) M) (h1 : 1 ≤ s) (h5 : s ≤ 5) (hk : k < 6) (hc : codesL[k]? = some c) : MetOk bits (6 * (s - 1) + (k + 1)) (M ++ [⟨s, c⟩]) := by
  have hcl : c.size ≤ 2 := by
    have hkk : k = 0 ∨ k = 1 ∨ k = 2 ∨ k = 3 ∨ k = 4 ∨ k = 5 := by omega
    rcases hkk with rfl | rfl | rfl | rfl | rfl | rfl <;> (simp only [codesL] at hc; injection hc with hc; subst hc; decide)
  refine ⟨by simp; have := h.1; omega, fun x hx => ?_, fun hb => ?_⟩
  · rw [List.mem_append, List.mem_singleton] at hx
    rcases hx with hx | rfl
    · exact h.2.1 x hx
    · refine ⟨?_, by unfold maxLen; show c.size ≤ _; omega⟩
      have hs : s = 1 ∨ s = 2 ∨ s = 3 ∨ s = 4 ∨ s = 5 := by omega
      rcases hs with rfl | rfl | rfl | rfl | rfl <;> rfl
  · rw [h.2.2 hb, show 6 * (s - 1) + (k + 1) = 6 * (s - 1) + k + 1 by omega, take_one (metAll_at h1 h5 hk hc)]
theorem MetOk.no {bits : Int} {j : Nat} {M : List Seat} (h : MetOk bits j M) (hb : bits ≠ 0) : MetOk bits (j + 1) M := ⟨by have := h.1; omega, h.2.1, fun e => absurd e hb⟩
def MetSt (bits : Int) (w1 : World) (j : Nat) (v : Value) (wr : World) : Prop := ∃ (M : List Seat) (p : Option Addr) (c : Nat), v = .slice p M.length c ∧ MetOk bits j M ∧ wr.ownsRow w1.heap.size 54 2 (.slice p M.length c) M.length (flatE Seat.cells M) ∧ RowKit.Below w1.heap.size w1 wr
set_option maxHeartbeats 4000000 in
set_option maxRecDepth 100000 in
theorem met_any (bits : Int) (w : World) (h0 : 0 ≤ bits) (h1 : bits ≤ 4294967295) :
    Calls Tryz.prog 23 #[.int .i64 bits] w fun e w' => ∃ v M, e = .returned v ∧ w'.ownsRow w.heap.size 54 2 v M.length (flatE Seat.cells M) ∧ MetOk bits 30 M ∧ RowKit.Below w.heap.size w w' := by
  go_enter Tryz.func23, Tryz.ntmps23
  go_wp2_with fail
  refine (codes_any w).mono ?_
  rintro _ w1 ⟨rfl, hw1⟩
  have hb1 : RowKit.Below w.heap.size w w1 := by rw [hw1]; exact below_alloc1 _ _
  have hcod : w1.heap[w.heap.size]? = some (.cells #[.string ⟨#[65, 49]⟩, .string ⟨#[66, 49]⟩, .string ⟨#[66, 50]⟩, .string ⟨#[67, 49]⟩, .string ⟨#[68, 49]⟩, .string ⟨#[69, 57]⟩] 9 (0, 0)) := by rw [hw1]; exact heap_alloc_new _ _
  have hl1 := (Array.getElem?_eq_some_iff.1 hcod).1
  have HCOD := Lib.hid hcod
  clear hw1 hcod
  go_wp2_with fail
  go_loopw [3, 5] (fun v i wr => ∃ s : Nat, 1 ≤ s ∧ s ≤ 6 ∧ i = .int .i64 s ∧ MetSt bits w1 (6 * (s - 1)) v wr) (fun _ i _ => 6 - (RowKit.intOf i).toNat)
  case atStart => exact ⟨1, by omega, by omega, rfl, [], none, 0, rfl, ⟨Nat.le_refl _, (fun s h => (by cases h)), fun _ => rfl⟩, World.ownsRow_nil _ _ _ _, Below.refl _ _⟩
  case round =>
    obtain ⟨s, hs1, hs6, rfl, hst⟩ := hrel
    by_cases hlt : s ≤ 5
    · have hs5 : decide ((s : Int) ≤ 5) = true := decide_eq_true (by omega)
      have HST := Lib.hid hst
      obtain ⟨M0, p0, c0, rfl, _⟩ := hst
      go_wp2_with fail
      go_loopw [3, 6] (fun v i wr => ∃ k : Nat, k ≤ 6 ∧ i = .int .i64 k ∧ MetSt bits w1 (6 * (s - 1) + k) v wr) (fun _ i _ => 6 - (RowKit.intOf i).toNat)
      case atStart => exact ⟨0, by omega, rfl, HST.out⟩
      case round =>
        clear HST
        obtain ⟨k, hk, rfl, M, p, c, rfl, hm, ho, hbr⟩ := hrel
        have HM := Lib.hid hm
        have HO := Lib.hid ho
        clear hm ho
        by_cases hlk : k < 6
        · have hk6 : decide ((k : Int) < 6) = true := decide_eq_true (by omega)
          obtain ⟨cc, hcc⟩ : ∃ cc, codesL[k]? = some cc := ⟨_, List.getElem?_eq_getElem (by show k < 6; omega)⟩
          have hcell : wr.cell? ⟨w.heap.size, k, none⟩ = some (.string cc) := by
            rw [hbr.cell (p := ⟨w.heap.size, k, none⟩) hl1, Lib.cell_of_heap HCOD.out]
            have hkk : k = 0 ∨ k = 1 ∨ k = 2 ∨ k = 3 ∨ k = 4 ∨ k = 5 := by omega
            rcases hkk with rfl | rfl | rfl | rfl | rfl | rfl <;> (simp only [codesL] at hcc; injection hcc with hcc; subst hcc; rfl)
          have HC := Lib.hid hcc
          clear hcc
          have a1 : IntKind.i64.wrap (6 * (s : Int)) = ((6 * s : Nat) : Int) := by rw [IntWalk.i64_in _ (by omega)]; omega
          have a2 : IntKind.i64.wrap (((6 * s : Nat) : Int) + k) = ((6 * s + k : Nat) : Int) := by rw [IntWalk.i64_in _ (by omega)]; omega
          have a3 : IntKind.i64.wrap (((6 * s + k : Nat) : Int) - 6) = ((6 * s + k - 6 : Nat) : Int) := by rw [IntWalk.i64_in _ (by omega)]; omega
          obtain ⟨X, hX⟩ : ∃ X, Go.bits BinOp.and IntKind.i64 (bits / 2 ^ (6 * s + k - 6)) 1 = X := ⟨_, rfl⟩
          have HX : Hid (bits = 0 → X = 0) := Lib.hid fun e => by subst e; rw [← hX, Int.zero_ediv]; rfl
          have a4 : IntKind.i64.wrap ((s : Int) + k) = ((s + k : Nat) : Int) := by rw [IntWalk.i64_in _ (by omega)]; omega
          have hown9 : (wr.alloc (.cells #[.int .i64 s, .string cc] 54)).ownsRow w1.heap.size 54 2 (.slice p M.length c) M.length (flatE Seat.cells M) := HO.out.alloc _
          have hlit := rowIn_lit (enc := Seat.cells) (e := 54) wr [⟨s, cc⟩] #[.int .i64 s, .string cc] wr.heap.size rfl rfl 1 rfl
          have hb9 := hbr.alloc hbr.size (.cells #[.int .i64 s, .string cc] 54)
          have hMl := HM.out.1
          by_cases h0X : X = 0
          · subst h0X
            have HM2 := Lib.hid (HM.out.yes hs1 hlt hlk HC.out)
            go_wp2_with (at_builtin; refine wpList_append_row seatT rfl (.tmp 34) (.tmp 41) rfl w1.heap.size _ _ M [⟨s, cc⟩] rfl rfl hown9 hlit (by simp; omega) hb9.size ?_; intro v9 w9 hA9; obtain ⟨p9, c9, rfl⟩ := own_form hA9.own)
            have hbF := hb9.grown hA9.grown hb9.size (fun q hq => (own_lo hown9 hq).1)
            have hoF := hA9.own
            simp only [List.length_append, List.length_singleton] at hoF
            go_roundw
            case rel => exact ⟨k + 1, by omega, by go_num, M ++ [⟨s, cc⟩], p9, c9, by simp, HM2.out, by simpa using hoF, hbF⟩
            case measure => simp [RowKit.intOf]; omega
          · have hX0 : (X == 0) = false := by simpa using h0X
            have HMN := Lib.hid (HM.out.no (fun e => h0X (HX.out e)))
            have HMY := Lib.hid (HM.out.yes hs1 hlt hlk HC.out)
            clear h0X
            by_cases h3 : 0 < ((s : Int) + k) % 3
            · have h3' : decide (0 < ((s : Int) + k) % 3) = true := decide_eq_true h3
              clear h3
              go_wp2_with (at_builtin; refine wpList_append_row seatT rfl (.tmp 34) (.tmp 41) rfl w1.heap.size _ _ M [⟨s, cc⟩] rfl rfl hown9 hlit (by simp; omega) hb9.size ?_; intro v9 w9 hA9; obtain ⟨p9, c9, rfl⟩ := own_form hA9.own)
              have hbF := hb9.grown hA9.grown hb9.size (fun q hq => (own_lo hown9 hq).1)
              have hoF := hA9.own
              simp only [List.length_append, List.length_singleton] at hoF
              go_roundw
              case rel => exact ⟨k + 1, by omega, by go_num, M ++ [⟨s, cc⟩], p9, c9, by simp, HMY.out, by simpa using hoF, hbF⟩
              case measure => simp [RowKit.intOf]; omega
            · have h3' : decide (0 < ((s : Int) + k) % 3) = false := decide_eq_false h3
              clear h3
              go_wp2_with fail
              go_roundw
              case rel => exact ⟨k + 1, by omega, by go_num, M, p, c, rfl, HMN.out, HO.out, hbr⟩
              case measure => simp [RowKit.intOf]; omega
        · obtain rfl : k = 6 := by omega
          go_wp2_with fail
          go_roundw
          case rel => exact ⟨s + 1, by omega, by omega, by go_num, M, p, c, rfl, by rw [show 6 * (s + 1 - 1) = 6 * (s - 1) + 6 by omega]; exact HM.out, HO.out, hbr⟩
          case measure => simp [RowKit.intOf]; omega
    · obtain rfl : s = 6 := by omega
      obtain ⟨M, p, c, rfl, hm, ho, hbr⟩ := hst
      have HM := Lib.hid hm
      have HO := Lib.hid ho
      clear hm ho
      go_wp2_with fail
      go_ret
      exact ⟨_, M, rfl, row_base HO.out hb1.size, HM.out, below_next hb1 hbr⟩
end Go.Proofs.YtbihaoadgcckhaaGreat
