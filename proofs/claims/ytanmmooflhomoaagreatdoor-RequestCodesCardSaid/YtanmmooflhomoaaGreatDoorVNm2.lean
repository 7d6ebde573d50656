/- The project's number, where the text is cut: walked once. -/
import Derived.Test.YtanmmooflhomoaaGreatDoorVNmb
import Derived.Shelf.Strconv.ErrVarAll
namespace Go.Proofs.YtanmmooflhomoaaGreatDoor.Wr
open Go Go.RowKit Go.Sort Go.Lib

/-- The library's two errors of numbers lie in their variables. -/
def ErrVars (w : World) : Prop := (∃ tp p, w.var? Tryz.prog "strconv.ErrSyntax" = some #[.iface tp p]) ∧ ∃ tp p, w.var? Tryz.prog "strconv.ErrRange" = some #[.iface tp p]
theorem var_below {w w' : World} {n : String} {cs : Array Value} (h : w.var? Tryz.prog n = some cs) (hb : RowKit.Below w.heap.size w w') : w'.var? Tryz.prog n = some cs := by
  unfold World.var? at *
  cases hg : Tryz.prog.globalNamed n with
  | none => simp only [hg] at h; cases h
  | some g =>
    simp only [hg, Option.bind_some] at h ⊢
    have hlt : g < w.heap.size := by
      rcases Nat.lt_or_ge g w.heap.size with hx | hx
      · exact hx
      · rw [Array.getElem?_eq_none hx] at h; cases h
    rw [hb.block g hlt]; exact h
theorem ErrVars.below {w w' : World} (h : ErrVars w) (hb : RowKit.Below w.heap.size w w') : ErrVars w' := by
  obtain ⟨⟨t1, p1, h1⟩, t2, p2, h2⟩ := h
  exact ⟨⟨t1, p1, var_below h1 hb⟩, t2, p2, var_below h2 hb⟩
def AtoiBad (w : World) (e : Ending) (w' : World) : Prop := ∃ (n : Int) (t : TypeId) (a : Addr), e = .returned (.tuple #[.int .i64 n, .iface t (.pointer (some a))]) ∧ RowKit.Below w.heap.size w w'
theorem atoi_bad (s : ByteArray) (hs : s.size ≤ 4294967280) (h : ∀ v, Lib.atoiAll s.data.toList ≠ .ok v) (w : World) (hv : ErrVars w) :
    Calls Tryz.prog 87 #[.string s] w (AtoiBad w) := by
  obtain ⟨⟨t1, p1, h1⟩, t2, p2, h2⟩ := hv
  rcases hx : Lib.atoiAll s.data.toList with v | _ | _
  · exact absurd hx (h v)
  · exact (Any.strconv_Atoi_syntax_var Tryz.laysC172 s (by omega) hx t1 p1 w h1).mono fun e w' ⟨N, he, _, _, hb⟩ => ⟨_, _, _, he, hb⟩
  · exact (Any.strconv_Atoi_range_var Tryz.laysC172 s (by omega) hx t2 p2 w h2).mono fun e w' ⟨N, he, _, _, hb⟩ => ⟨_, _, _, he, hb⟩
/-- What the library's calls read lies as it lay, behind a change of a reader. -/
def Past (p : Nat) : Prop := 0 < p ∧ 1 < p ∧ 2 < p ∧ 3 < p
theorem Sane.but {w w' : World} {p : Nat} (h : Sane w) (hB : But p w w') (hp : Past p) : Sane w' := by
  obtain ⟨h1, m, h2⟩ := h
  obtain ⟨p1, p2, -, -⟩ := hp
  have l1 := h1.lt
  have b1 := hB.below (B := 1 + 1) (by omega) (by omega)
  exact ⟨var?_below b1 gTab (by omega) h1, m, hB.cell (by omega) h2⟩
theorem ErrVars.but {w w' : World} {p : Nat} (h : ErrVars w) (hB : But p w w') (hp : Past p) : ErrVars w' := by
  have key : ∀ {n : String} {cs : Array Value} (g : Nat), Tryz.prog.globalNamed n = some g → g < p → w.var? Tryz.prog n = some cs → w'.var? Tryz.prog n = some cs := by
    intro n cs g hg hgp h
    have hlt : g < w.heap.size := by
      unfold World.var? at h
      rw [hg] at h
      simp only [Option.bind_some] at h
      rcases Nat.lt_or_ge g w.heap.size with hx | hx
      · exact hx
      · rw [Array.getElem?_eq_none hx] at h; cases h
    exact var?_below (hB.below (B := g + 1) (by omega) (by omega)) hg (by omega) h
  obtain ⟨⟨t1, p1, h1⟩, t2, p2, h2⟩ := h
  exact ⟨⟨t1, p1, key 2 (by kernel_rfl) hp.2.2.1 h1⟩, t2, p2, key 3 (by kernel_rfl) hp.2.2.2 h2⟩
set_option maxRecDepth 100000 in
theorem number_ok (p : Nat) (hp : Past p) (s : ByteArray) (hs : s.size ≤ 100000000) (c : UInt8) (w : World) (h : RdAt w p s false) (ht : Sane w) (u v : List UInt8) (hu : u.length ≤ 100000000) (hc : Lib.cut s.data.toList [c] = (u, v, true)) (n : Int) (hn : -9223372036854775808 ≤ n ∧ n ≤ 9223372036854775807) (ha : atoiAll u = .ok n) (hi : itoa n = u) :
    Calls Tryz.prog 63 #[.pointer (some ⟨p, 0, none⟩), .string ⟨#[c]⟩] w fun e w' => e = .returned (.tuple #[.int .i64 n, .bool true]) ∧ RdAt w' p ⟨v.toArray⟩ false ∧ But p w w' := by
  have cb := bad_any p s false w h
  have cc := cut_any s ⟨#[c]⟩ w ht (by omega)
  rw [show (⟨#[c]⟩ : ByteArray).data.toList = [c] from rfl, hc] at cc
  clear hc
  obtain ⟨h0, h1, -, -⟩ := id h
  have ca := fun w => atoi_ok ⟨u.toArray⟩ (by simp [ByteArray.size]; omega) n (by simpa using ha) w
  have HI := Lib.hid hi
  clear ha hi
  go_enter Tryz.func63, Tryz.ntmps63
  go_wp2_with fail
  go_step3
  go_wp2_with fail
  refine cb.mono ?_
  rintro x _ ⟨rfl, rfl⟩
  go_wp2_with fail
  refine cc.mono ?_
  rintro x w1 ⟨rfl, hb⟩
  have hR := (h.below hb).set ⟨v.toArray⟩
  have hB := (But.of (p := p) hb).set 0 (.string ⟨v.toArray⟩)
  obtain ⟨k0, k1, f0, f1⟩ := h.below hb
  have hl := (h.below hb).lt
  clear h0 h1 h
  go_wp2_with fail
  refine (ca _).mono ?_
  rintro x w2 ⟨rfl, hb2⟩
  replace hR := hR.below hb2
  replace hB := hB.trans (But.of hb2)
  clear hb2 k0 k1 f0 f1 hl
  go_wp2_with fail
  refine (itoa_any n _ hn.1 hn.2 (ht.but hB hp).1).mono ?_
  rintro x w3 ⟨rfl, hb3⟩
  replace hR := hR.below hb3
  replace hB := hB.trans (But.of hb3)
  clear hb3
  rw [HI.out]
  go_wp2_with fail
  rw [Exit.noGoto_ret]
  (try simp only [Exit.inBlock, Exit.then]); refine bodyPost_ret (results_tmp2 rfl _ _ _) rfl ?_
  exact ⟨rfl, hR, hB⟩
set_option maxRecDepth 100000 in
theorem number_text (p : Nat) (hp : Past p) (s : ByteArray) (hs : s.size ≤ 100000000) (c : UInt8) (w : World) (h : RdAt w p s false) (ht : Sane w) (u v : List UInt8) (hu : u.length ≤ 100000000) (hc : Lib.cut s.data.toList [c] = (u, v, true)) (n : Int) (hn : -9223372036854775808 ≤ n ∧ n ≤ 9223372036854775807) (ha : atoiAll u = .ok n) (hi : itoa n ≠ u) :
    Calls Tryz.prog 63 #[.pointer (some ⟨p, 0, none⟩), .string ⟨#[c]⟩] w (NumBad p w) := by
  have cb := bad_any p s false w h
  have cc := cut_any s ⟨#[c]⟩ w ht (by omega)
  rw [show (⟨#[c]⟩ : ByteArray).data.toList = [c] from rfl, hc] at cc
  clear hc
  obtain ⟨h0, h1, -, -⟩ := id h
  have ca := fun w => atoi_ok ⟨u.toArray⟩ (by simp [ByteArray.size]; omega) n (by simpa using ha) w
  clear ha
  go_enter Tryz.func63, Tryz.ntmps63
  go_wp2_with fail
  refine wp_scope_jumps 0 (Jump p w) (fun _ _ => 0) rfl ?_ ?_
  · go_wp2_with fail
    refine cb.mono ?_
    rintro x _ ⟨rfl, rfl⟩
    go_wp2_with fail
    refine cc.mono ?_
    rintro x w1 ⟨rfl, hb⟩
    have hR := (h.below hb).set ⟨v.toArray⟩
    have hB := (But.of (p := p) hb).set 0 (.string ⟨v.toArray⟩)
    obtain ⟨k0, k1, f0, f1⟩ := h.below hb
    have hl := (h.below hb).lt
    clear h0 h1 h
    go_wp2_with fail
    refine (ca _).mono ?_
    rintro x w2 ⟨rfl, hb2⟩
    replace hR := hR.below hb2
    replace hB := hB.trans (But.of hb2)
    clear hb2 k0 k1 f0 f1 hl
    go_wp2_with fail
    refine (itoa_any n _ hn.1 hn.2 (ht.but hB hp).1).mono ?_
    rintro x w3 ⟨rfl, hb3⟩
    replace hR := hR.below hb3
    replace hB := hB.trans (But.of hb3)
    clear hb3
    have hne : (itoa n == u) = false := by simpa using hi
    clear hi
    go_wp2_with fail
    go_step3
    exact ⟨rfl, ⟨_, _, _, _, _, _, _, _, _, _, _, _, _, _, _, _, _, _, _, _, _, _, _, _, _, _, _, _, _, _, _, _, _, _, _, _, _, _, _, _, rfl⟩, ⟨_, _, hR⟩, hB⟩
  · rintro _ wr ⟨⟨u1, u2, u3, u4, u5, u6, u7, u8, u9, u10, u11, u12, u13, u14, u15, u16, u17, u18, u19, u20, u21, u22, u23, u24, u25, u26, u27, u28, u29, u30, u31, u32, u33, u34, u35, u36, u37, u38, u39, u40, rfl⟩, ⟨s', b', hR⟩, hB⟩
    have cf := fail_any p s' b' wr hR
    (try go_step3)
    go_wp2_with fail
    refine cf.mono ?_
    rintro x w2 ⟨rfl, hR2, hB2⟩
    go_wp2_with fail
    (try simp only [jump_ret])
    (try simp only [Exit.inBlock, Exit.then]); refine bodyPost_ret (results_tmp2 rfl _ _ _) rfl ?_
    exact ⟨rfl, hR2, hB.trans hB2⟩
set_option maxRecDepth 100000 in
theorem number_atoi (p : Nat) (hp : Past p) (s : ByteArray) (hs : s.size ≤ 100000000) (c : UInt8) (w : World) (h : RdAt w p s false) (ht : Sane w) (u v : List UInt8) (hu : u.length ≤ 100000000) (hc : Lib.cut s.data.toList [c] = (u, v, true)) (he : ErrVars w) (ha : ∀ n, atoiAll u ≠ .ok n) :
    Calls Tryz.prog 63 #[.pointer (some ⟨p, 0, none⟩), .string ⟨#[c]⟩] w (NumBad p w) := by
  have cb := bad_any p s false w h
  have cc := cut_any s ⟨#[c]⟩ w ht (by omega)
  rw [show (⟨#[c]⟩ : ByteArray).data.toList = [c] from rfl, hc] at cc
  clear hc
  obtain ⟨h0, h1, -, -⟩ := id h
  have ca := fun w he => atoi_bad ⟨u.toArray⟩ (by simp [ByteArray.size]; omega) (by simpa using ha) w he
  clear ha
  go_enter Tryz.func63, Tryz.ntmps63
  go_wp2_with fail
  refine wp_scope_jumps 0 (Jump p w) (fun _ _ => 0) rfl ?_ ?_
  · go_wp2_with fail
    refine cb.mono ?_
    rintro x _ ⟨rfl, rfl⟩
    go_wp2_with fail
    refine cc.mono ?_
    rintro x w1 ⟨rfl, hb⟩
    have hR := (h.below hb).set ⟨v.toArray⟩
    have hB := (But.of (p := p) hb).set 0 (.string ⟨v.toArray⟩)
    obtain ⟨k0, k1, f0, f1⟩ := h.below hb
    have hl := (h.below hb).lt
    clear h0 h1 h
    go_wp2_with fail
    refine (ca _ (he.but hB hp)).mono ?_
    rintro x w2 ⟨n2, t2, a2, rfl, hb2⟩
    replace hR := hR.below hb2
    replace hB := hB.trans (But.of hb2)
    clear hb2 k0 k1 f0 f1 hl
    go_wp2_with fail
    go_step3
    exact ⟨rfl, ⟨_, _, _, _, _, _, _, _, _, _, _, _, _, _, _, _, _, _, _, _, _, _, _, _, _, _, _, _, _, _, _, _, _, _, _, _, _, _, _, _, rfl⟩, ⟨_, _, hR⟩, hB⟩
  · rintro _ wr ⟨⟨u1, u2, u3, u4, u5, u6, u7, u8, u9, u10, u11, u12, u13, u14, u15, u16, u17, u18, u19, u20, u21, u22, u23, u24, u25, u26, u27, u28, u29, u30, u31, u32, u33, u34, u35, u36, u37, u38, u39, u40, rfl⟩, ⟨s', b', hR⟩, hB⟩
    have cf := fail_any p s' b' wr hR
    (try go_step3)
    go_wp2_with fail
    refine cf.mono ?_
    rintro x w2 ⟨rfl, hR2, hB2⟩
    go_wp2_with fail
    (try simp only [jump_ret])
    (try simp only [Exit.inBlock, Exit.then]); refine bodyPost_ret (results_tmp2 rfl _ _ _) rfl ?_
    exact ⟨rfl, hR2, hB.trans hB2⟩
end Go.Proofs.YtanmmooflhomoaaGreatDoor.Wr
