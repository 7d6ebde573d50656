/- decodes, malformed, sanity of the laws of wire: walked once. -/
import Derived.Test.YtfnlihadibnnoaaDoorWSm
namespace Go.Proofs.YtfnlihadibnnoaaDoor
open Go Go.RowKit Go.Sort Go.Lib

/-- What all calls read lies as it was laid. -/
structure Ready (w : World) : Prop where
  sane : Sane w
  errs : ErrVars w
theorem Ready.below {w w' : World} (h : Ready w) (hb : RowKit.Below w.heap.size w w') : Ready w' := ⟨h.sane.below hb, h.errs.below hb⟩
theorem Ready.but {w w' : World} {p : Nat} (h : Ready w) (hB : But p w w') (hp : Past p) : Ready w' := ⟨h.sane.but hB hp, h.errs.but hB hp⟩
theorem Ready.alloc {w : World} (h : Ready w) (o : Obj) : Ready (w.alloc o) := h.below (below_alloc1 w o)
theorem var_lt {w : World} {n : String} {cs : Array Value} {g : Nat} (hg : Tryd.prog.globalNamed n = some g) (h : w.var? Tryd.prog n = some cs) : g < w.heap.size := by
  unfold World.var? at h
  rw [hg] at h
  simp only [Option.bind_some] at h
  rcases Nat.lt_or_ge g w.heap.size with hx | hx
  · exact hx
  · rw [Array.getElem?_eq_none hx] at h; cases h
theorem Ready.past {w : World} (h : Ready w) {p : Nat} (hp : w.heap.size ≤ p) : Past p := by
  obtain ⟨⟨h1, m, h2⟩, ⟨t1, p1, e1⟩, t2, p2, e2⟩ := h
  have a1 := h1.lt
  have a2 := World.block_lt_of_cell? w _ h2
  have a3 := var_lt (g := 2) (by kernel_rfl) e1
  have a4 := var_lt (g := 3) (by kernel_rfl) e2
  unfold Past
  simp only at a2
  omega
theorem But.fresh {p B : Nat} {w w' : World} (h : But p w w') (hB : B ≤ p) (hw : B ≤ w.heap.size) : RowKit.Below B w w' := h.below hB hw
/-- The call of a number decodes nothing. -/
def decN (k : Nat) (s : List UInt8) : Prop := match k with | 0 => intP s = none | 1 => txtP s = none | 2 => intsP s = none | _ => txtsP s = none
/-- A reader decodes nothing any more. -/
def Spent (p : Nat) (w : World) (e : Ending) (w' : World) : Prop := e = .returned (.bool true) ∧ RdAt w' p ⟨#[]⟩ true ∧ But p w w'
theorem no_read {α : Type} {b : Bool} {z : Option α} (h : b = true ∨ z = none) : (if b = true then none else z) = none := by
  rcases h with h | h
  · rw [if_pos h]
  · rw [h]; cases b <;> rfl
set_option maxRecDepth 100000 in
theorem decodes_none (p : Nat) (hp : Past p) (s : List UInt8) (hs : s.length ≤ 100000000) (b : Bool) (k : Nat) (hk : k ≤ 3) (hn : b = true ∨ decN k s) (w : World) (h : RdAt w p ⟨s.toArray⟩ b) (hr : Ready w) :
    Calls Tryd.prog 36 #[.pointer (some ⟨p, 0, none⟩), .int .i64 k] w (Spent p w) := by
  have hz : s.length = (⟨s.toArray⟩ : ByteArray).size := by simp [ByteArray.size]
  obtain rfl | rfl | rfl | rfl : k = 0 ∨ k = 1 ∨ k = 2 ∨ k = 3 := by omega
  · have c := rdInt_any p hp ⟨s.toArray⟩ (by omega) b w h hr.sane hr.errs
    have e : (if b = true then none else numP (⟨s.toArray⟩ : ByteArray).data.toList 59) = none := no_read hn
    rw [e] at c
    unfold Reads at c
    unfold Spent
    clear hn h hr hs hz
    go_enter Tryd.func36, Tryd.ntmps36
    go_wp2_with fail
    refine c.mono ?_
    rintro x w1 ⟨rfl, hR, hB⟩
    go_wp2_with fail
    go_ret
    exact ⟨rfl, hR, hB⟩
  · have c := rdText_txt p hp ⟨s.toArray⟩ (by omega) b w h hr.sane hr.errs
    have e : (if b = true then none else txtP (⟨s.toArray⟩ : ByteArray).data.toList) = none := no_read hn
    rw [e] at c
    unfold Reads at c
    unfold Spent
    clear hn h hr hs hz
    go_enter Tryd.func36, Tryd.ntmps36
    go_wp2_with fail
    refine c.mono ?_
    rintro x w1 ⟨rfl, hR, hB⟩
    go_wp2_with fail
    go_ret
    exact ⟨rfl, hR, hB⟩
  · have c := rdInts_any p hp s hs b w h hr.sane hr.errs
    have e : (if b = true then none else listP intP s) = none := no_read hn
    rw [e] at c
    unfold ReadsL at c
    unfold Spent
    clear hn h hr hs hz
    go_enter Tryd.func36, Tryd.ntmps36
    go_wp2_with fail
    refine c.mono ?_
    rintro x w1 ⟨rfl, hR, hB⟩
    go_wp2_with fail
    go_ret
    exact ⟨rfl, hR, hB⟩
  · have c := rdTexts_any p hp s hs b w h hr.sane hr.errs
    have e : (if b = true then none else listP txtP s) = none := no_read hn
    rw [e] at c
    unfold ReadsL at c
    unfold Spent
    clear hn h hr hs hz
    go_enter Tryd.func36, Tryd.ntmps36
    go_wp2_with fail
    refine c.mono ?_
    rintro x w1 ⟨rfl, hR, hB⟩
    go_wp2_with fail
    go_ret
    exact ⟨rfl, hR, hB⟩
theorem decodes_nil (k : Nat) (hk : k ≤ 3) (w : World) :
    Calls Tryd.prog 36 #[.pointer none, .int .i64 k] w fun e w' => e = .returned (.bool true) ∧ w = w' := by
  have c0 := rdInt_nil w
  have c1 := rdText_nil w
  have c2 := rdInts_nil w
  have c3 := rdTexts_nil w
  obtain rfl | rfl | rfl | rfl : k = 0 ∨ k = 1 ∨ k = 2 ∨ k = 3 := by omega
  all_goals
    go_enter Tryd.func36, Tryd.ntmps36
    go_wp2_with fail
    (first | refine c0.mono ?_ | refine c1.mono ?_ | refine c2.mono ?_ | refine c3.mono ?_)
    rintro x _ ⟨rfl, rfl⟩
    go_wp2_with fail
    go_ret
    exact ⟨rfl, rfl⟩
theorem malformed_none (s : List UInt8) (hs : s.length ≤ 100000000) (hn : ∀ k, k ≤ 3 → decN k s) (w : World) (hr : Ready w) :
    Calls Tryd.prog 37 #[.string ⟨s.toArray⟩] w fun e w' => e = .returned (.bool true) ∧ RowKit.Below w.heap.size w w' := by
  go_enter Tryd.func37, Tryd.ntmps37
  go_wp2_with fail
  go_loopw [3] (fun i wr => ∃ k : Nat, k ≤ 4 ∧ i = .int .i64 k ∧ RowKit.Below w.heap.size w wr) (fun i _ => 4 - (RowKit.intOf i).toNat)
  case atStart => exact ⟨0, by omega, rfl, Below.refl _ _⟩
  case round =>
    obtain ⟨k, hk, rfl, hbr⟩ := hrel
    by_cases hlt : k < 4
    · have hrr := hr.below hbr
      go_wp2_with fail
      refine (new_any _ wr).mono ?_
      rintro x w1 ⟨p, rfl, hp, hR, hb⟩
      have hp2 := hrr.past hp
      have hps : w.heap.size ≤ p := Nat.le_trans hbr.size hp
      have cd := decodes_none p hp2 s hs false k (by omega) (.inr (hn k (by omega))) w1 hR (hrr.below hb)
      unfold Spent at cd
      have hb1 := below_next hbr hb
      clear hR hb hbr
      go_wp2_with fail
      refine cd.mono ?_
      rintro x w2 ⟨rfl, hR2, hB2⟩
      have cb := bad_any p _ _ w2 hR2
      have cl := left_any p _ _ w2 hR2
      rw [if_pos rfl] at cl
      have hs1 := hb1.size
      have hb2 : RowKit.Below w.heap.size w w2 := hb1.trans (hB2.below hps hs1)
      clear cd hR2 hB2 hb1
      go_wp2_with fail
      refine cb.mono ?_
      rintro x _ ⟨rfl, rfl⟩
      go_wp2_with fail
      refine cl.mono ?_
      rintro x _ ⟨rfl, rfl⟩
      go_wp2_with fail
      exact ⟨⟨k + 1, by omega, by go_num, hb2⟩, by simp [RowKit.intOf]; omega⟩
    · obtain rfl : k = 4 := by omega
      go_wp2_with fail
      go_ret
      exact ⟨rfl, hbr⟩
end Go.Proofs.YtfnlihadibnnoaaDoor
