/- The project's number: walked once. -/
import Derived.Test.YtanmmooflhomoaaGreatDoorVRd
import Derived.WalkMore
import Derived.ScopeJumps
namespace Go.Proofs.YtanmmooflhomoaaGreatDoor.Wr
open Go Go.RowKit Go.Sort Go.Lib

/-- The number that a text begins with, up to a byte, and what stands behind this byte. -/
def numP (s : List UInt8) (c : UInt8) : Option (Int × List UInt8) :=
  if (Lib.cut s [c]).2.2 = true then
    match atoiAll (Lib.cut s [c]).1 with
    | .ok n => if itoa n = (Lib.cut s [c]).1 then some (n, (Lib.cut s [c]).2.1) else none
    | _ => none
  else none
theorem atoi_ok (s : ByteArray) (hs : s.size ≤ 4294967280) (v : Int) (h : Lib.atoiAll s.data.toList = .ok v) (w : World) :
    Calls Tryz.prog 87 #[.string s] w fun e w' => e = .returned (.tuple #[.int .i64 v, .nilIface]) ∧ RowKit.Below w.heap.size w w' :=
  (Tryz.strconv_Atoi_ok s (by omega) v h w).mono fun e w' ⟨he, hw⟩ => ⟨he, by
    rcases hw with rfl | ⟨t, rfl⟩
    · exact Below.refl _ _
    · exact Lib.bytesWorld_below _ _ _⟩
def Sane (w : World) : Prop := Tabs w ∧ ∃ m, w.cell? ⟨0, 0, none⟩ = some (.int .i64 m)
theorem Sane.below {w w' : World} (h : Sane w) (hb : RowKit.Below w.heap.size w w') : Sane w' := by
  obtain ⟨h1, m, h2⟩ := h
  exact ⟨h1.below hb, m, by rw [(bcell hb).1 _ _ (World.block_lt_of_cell? w _ h2)]; exact h2⟩
theorem below_drewN' {B : Nat} {a w : World} (h : RowKit.Below B a w) (n : Nat) : RowKit.Below B a (w.drewN n) := ⟨h.os, h.tape, h.output, h.size, h.block⟩
theorem cut_any (s sep : ByteArray) (w : World) (h : Sane w) (hs : s.size ≤ 4294967280) :
    Calls Tryz.prog 86 #[.string s, .string sep] w fun e w' => e = .returned (.tuple #[.string ⟨(Lib.cut s.data.toList sep.data.toList).1.toArray⟩, .string ⟨(Lib.cut s.data.toList sep.data.toList).2.1.toArray⟩, .bool (Lib.cut s.data.toList sep.data.toList).2.2]) ∧ RowKit.Below w.heap.size w w' := by
  obtain ⟨_, m, hm⟩ := h
  exact (Tryz.strings_Cut s sep m w (by omega) hm).mono fun e w' ⟨he, n, hw⟩ => ⟨he, by rw [hw]; exact below_drewN' (Below.refl _ _) n⟩
/-- A call of number came to nothing. -/
def NumBad (p : Nat) (w : World) (e : Ending) (w' : World) : Prop := e = .returned (.tuple #[.int .i64 0, .bool false]) ∧ RdAt w' p ⟨#[]⟩ true ∧ But p w w'
@[local go_sem] theorem jump_ret {l : Nat} {J : Act → World → Prop} {Q : Exit → Act → World → Prop} {a : Act} {w : World} : Exit.jump l J Q .ret a w = Q .ret a w := rfl
/-- How the run stands at the jump. -/
def Jump (p : Nat) (w0 : World) (a : Act) (w : World) : Prop := (∃ u1 u2 u3 u4 u5 u6 u7 u8 u9 u10 u11 u12 u13 u14 u15 u16 u17 u18 u19 u20 u21 u22 u23 u24 u25 u26 u27 u28 u29 u30 u31 u32 u33 u34 u35 u36 u37 u38 u39 u40 : Value, a = ⟨List.toArray (.pointer (some ⟨p, 0, none⟩) :: u1 :: u2 :: u3 :: u4 :: u5 :: u6 :: u7 :: u8 :: u9 :: u10 :: u11 :: u12 :: u13 :: u14 :: u15 :: u16 :: u17 :: u18 :: u19 :: u20 :: u21 :: u22 :: u23 :: u24 :: u25 :: u26 :: u27 :: u28 :: u29 :: u30 :: u31 :: u32 :: u33 :: u34 :: u35 :: u36 :: u37 :: u38 :: u39 :: u40 :: []), []⟩) ∧ (∃ s b, RdAt w p s b) ∧ But p w0 w
set_option maxRecDepth 100000 in
theorem number_bad (p : Nat) (s : ByteArray) (c : UInt8) (w : World) (h : RdAt w p s true) :
    Calls Tryz.prog 63 #[.pointer (some ⟨p, 0, none⟩), .string ⟨#[c]⟩] w (NumBad p w) := by
  have cb := bad_any p s true w h
  go_enter Tryz.func63, Tryz.ntmps63
  go_wp2_with fail
  refine wp_scope_jumps 0 (Jump p w) (fun _ _ => 0) rfl ?_ ?_
  · go_wp2_with fail
    refine cb.mono ?_
    rintro x _ ⟨rfl, rfl⟩
    go_wp2_with fail
    go_step3
    exact ⟨rfl, ⟨_, _, _, _, _, _, _, _, _, _, _, _, _, _, _, _, _, _, _, _, _, _, _, _, _, _, _, _, _, _, _, _, _, _, _, _, _, _, _, _, rfl⟩, ⟨s, true, h⟩, But.refl _ _⟩
  · rintro _ wr ⟨⟨u1, u2, u3, u4, u5, u6, u7, u8, u9, u10, u11, u12, u13, u14, u15, u16, u17, u18, u19, u20, u21, u22, u23, u24, u25, u26, u27, u28, u29, u30, u31, u32, u33, u34, u35, u36, u37, u38, u39, u40, rfl⟩, ⟨s', b', hR⟩, hB⟩
    have cf := fail_any p s' b' wr hR
    (try go_step3)
    go_wp2_with fail
    refine cf.mono ?_
    rintro x w2 ⟨rfl, hR2, hB2⟩
    go_wp2_with fail
    (try simp only [jump_ret])
    (try simp only [Exit.inBlock, Exit.then]); refine bodyPost_ret (results_tmp2 rfl _ _ _) rfl ?_
    exact ⟨rfl, hR2, hB.trans hB2⟩
set_option maxRecDepth 100000 in
theorem number_cut (p : Nat) (s : ByteArray) (hs : s.size ≤ 100000000) (c : UInt8) (w : World) (h : RdAt w p s false) (ht : Sane w) (u v : List UInt8) (hc : Lib.cut s.data.toList [c] = (u, v, false)) :
    Calls Tryz.prog 63 #[.pointer (some ⟨p, 0, none⟩), .string ⟨#[c]⟩] w (NumBad p w) := by
  have cb := bad_any p s false w h
  have cc := cut_any s ⟨#[c]⟩ w ht (by omega)
  rw [show (⟨#[c]⟩ : ByteArray).data.toList = [c] from rfl, hc] at cc
  clear hc
  obtain ⟨h0, h1, -, -⟩ := id h
  go_enter Tryz.func63, Tryz.ntmps63
  go_wp2_with fail
  refine wp_scope_jumps 0 (Jump p w) (fun _ _ => 0) rfl ?_ ?_
  · go_wp2_with fail
    refine cb.mono ?_
    rintro x _ ⟨rfl, rfl⟩
    go_wp2_with fail
    refine cc.mono ?_
    rintro x w1 ⟨rfl, hb⟩
    have hR := (h.below hb).set ⟨v.toArray⟩
    have hB := (But.of (p := p) hb).set 0 (.string ⟨v.toArray⟩)
    obtain ⟨k0, k1, f0, f1⟩ := h.below hb
    have hl := (h.below hb).lt
    clear h0 h1 h
    go_wp2_with fail
    go_step3
    exact ⟨rfl, ⟨_, _, _, _, _, _, _, _, _, _, _, _, _, _, _, _, _, _, _, _, _, _, _, _, _, _, _, _, _, _, _, _, _, _, _, _, _, _, _, _, rfl⟩, ⟨_, _, hR⟩, hB⟩
  · rintro _ wr ⟨⟨u1, u2, u3, u4, u5, u6, u7, u8, u9, u10, u11, u12, u13, u14, u15, u16, u17, u18, u19, u20, u21, u22, u23, u24, u25, u26, u27, u28, u29, u30, u31, u32, u33, u34, u35, u36, u37, u38, u39, u40, rfl⟩, ⟨s', b', hR⟩, hB⟩
    have cf := fail_any p s' b' wr hR
    (try go_step3)
    go_wp2_with fail
    refine cf.mono ?_
    rintro x w2 ⟨rfl, hR2, hB2⟩
    go_wp2_with fail
    (try simp only [jump_ret])
    (try simp only [Exit.inBlock, Exit.then]); refine bodyPost_ret (results_tmp2 rfl _ _ _) rfl ?_
    exact ⟨rfl, hR2, hB.trans hB2⟩
end Go.Proofs.YtanmmooflhomoaaGreatDoor.Wr
