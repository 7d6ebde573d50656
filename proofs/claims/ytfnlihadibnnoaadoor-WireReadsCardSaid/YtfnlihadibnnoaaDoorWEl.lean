/- The project's elements: walked once for whole numbers, once for texts. -/
import Derived.Test.YtfnlihadibnnoaaDoorWPl
import Derived.OwnWalk
namespace Go.Proofs.YtfnlihadibnnoaaDoor
open Go Go.RowKit Go.Sort Go.Lib

theorem int_info : (Tryd.prog.info? 3).map (fun i => (i.zero, i.size, i.bytes)) = some (some (.int .i64 0), 1, 8) := by kernel_rfl
theorem str_info : (Tryd.prog.info? 9).map (fun i => (i.zero, i.size, i.bytes)) = some (some (.string ⟨#[]⟩), 1, 16) := by kernel_rfl
/-- A call of a reader that comes to a list: a row of its own and what is left, or nothing. -/
def ReadsL {α : Type} (p : Nat) (el : TypeId) (cell : α → Value) (z : Option (List α × List UInt8)) (w : World) (e : Ending) (w' : World) : Prop :=
  match z with
  | some (l, r) => ∃ v, e = .returned v ∧ w'.ownsRow w.heap.size el 1 v l.length (l.map cell) ∧ RdAt w' p ⟨r.toArray⟩ false ∧ But p w w'
  | none => e = .returned (.slice none 0 0) ∧ RdAt w' p ⟨#[]⟩ true ∧ But p w w'
/-- How much a reader has left, by the world. -/
def leftOf (w : World) (p : Nat) : Nat := match w.cell? ⟨p, 0, none⟩ with | some (.string s) => s.size | _ => 0
theorem leftOf_at {w : World} {p : Nat} {l : List UInt8} {b : Bool} (h : RdAt w p ⟨l.toArray⟩ b) : leftOf w p = l.length := by
  unfold leftOf; rw [h.1]; simp [ByteArray.size]
theorem But.grown {p : Nat} {w w' : World} (h : But p w w') : w.grownBy w' (some p) := ⟨h.os, h.tape, h.output, h.size, fun k hk hp => h.block k hk (fun e => hp (by rw [e]))⟩
theorem RdAt.grown {w w' : World} {p : Nat} {s : ByteArray} {b : Bool} {row : Option Nat} (h : RdAt w p s b) (hg : w.grownBy w' row) (hr : row ≠ some p) : RdAt w' p s b := by
  have hb := hg.block p h.lt (fun e => hr e.symm)
  obtain ⟨h0, h1, f0, f1⟩ := h
  exact ⟨(World.cell?_of_block hb).trans h0, (World.cell?_of_block hb).trans h1, (World.frozen?_of_block hb).trans f0, (World.frozen?_of_block hb).trans f1⟩
theorem But.then {p : Nat} {W w w' : World} {row : Option Nat} (h : But p W w) (hg : w.grownBy w' row) (hr : ∀ k, row = some k → W.heap.size ≤ k) : But p W w' :=
  ⟨hg.os.trans h.os, hg.tape.trans h.tape, hg.output.trans h.output, Nat.le_trans h.size hg.size, fun k hk hp =>
    (hg.block k (Nat.lt_of_lt_of_le hk h.size) (fun e => by have := hr k e.symm; omega)).trans (h.block k hk hp)⟩
theorem cons_size (c : UInt8) (r : List UInt8) : (⟨(c :: r).toArray⟩ : ByteArray).size = r.length + 1 := by simp [ByteArray.size]
theorem tail_ba (c : UInt8) (r : List UInt8) : (⟨(c :: r).toArray⟩ : ByteArray).extract 1 (r.length + 1) = ⟨r.toArray⟩ := ba_ext (by simp [ByteArray.data_extract])
theorem head_ba (c : UInt8) (r : List UInt8) (h : 0 < (⟨(c :: r).toArray⟩ : ByteArray).size) : (⟨(c :: r).toArray⟩ : ByteArray)[0]'h = c := rfl
attribute [local go_sem] head_ba
theorem intP_short {s : List UInt8} {n : Int} {r : List UInt8} (h : intP s = some (n, r)) : r.length < s.length := by
  obtain ⟨rfl, -⟩ := intP_some h
  simp [wInt]; omega
theorem txtP_short {s : List UInt8} {n : ByteArray} {r : List UInt8} (h : txtP s = some (n, r)) : r.length < s.length := by
  obtain ⟨rfl, -⟩ := txtP_some h
  simp [wText]; omega
theorem rdText_txt (p : Nat) (hp : Past p) (s : ByteArray) (hs : s.size ≤ 100000000) (b : Bool) (w : World) (h : RdAt w p s b) (ht : Sane w) (he : ErrVars w) :
    Calls Tryd.prog 24 #[.pointer (some ⟨p, 0, none⟩)] w (Reads p Value.string (.string ⟨#[]⟩) (if b = true then none else txtP s.data.toList) w) := by
  refine (rdText_any p hp s hs b w h ht he).mono ?_
  intro e w' H
  cases b
  · simp only [Bool.false_eq_true, if_false] at H ⊢
    unfold txtP
    cases hx : textP s.data.toList <;> rw [hx] at H <;> exact H
  · exact H
theorem fail_nil (w : World) : Calls Tryd.prog 45 #[.pointer none] w fun e w' => e = .returned (.tuple #[]) ∧ w = w' := by
  go_enter Tryd.func45, Tryd.ntmps45
  go_wp2_with fail
  go_end0
  exact ⟨rfl, rfl⟩
/-- How the run stands at the jump, of a nil reader. -/
def JumpNil (w0 : World) (a : Act) (w : World) : Prop := (∃ u1 u2 u3 u4 u5 u6 u7 u8 u9 u10 u11 u12 u13 u14 u15 u16 u17 u18 u19 u20 u21 u22 u23 u24 u25 u26 u27 u28 u29 u30 u31 u32 u33 u34 u35 u36 u37 u38 u39 u40 : Value, a = ⟨List.toArray (.pointer none :: u1 :: u2 :: u3 :: u4 :: u5 :: u6 :: u7 :: u8 :: u9 :: u10 :: u11 :: u12 :: u13 :: u14 :: u15 :: u16 :: u17 :: u18 :: u19 :: u20 :: u21 :: u22 :: u23 :: u24 :: u25 :: u26 :: u27 :: u28 :: u29 :: u30 :: u31 :: u32 :: u33 :: u34 :: u35 :: u36 :: u37 :: u38 :: u39 :: u40 :: []), []⟩) ∧ w0 = w
set_option maxRecDepth 100000 in
theorem number_nil (c : UInt8) (w : World) :
    Calls Tryd.prog 42 #[.pointer none, .string ⟨#[c]⟩] w fun e w' => e = .returned (.tuple #[.int .i64 0, .bool false]) ∧ w = w' := by
  have cb := bad_nil w
  go_enter Tryd.func42, Tryd.ntmps42
  go_wp2_with fail
  refine wp_scope_jumps 0 (JumpNil w) (fun _ _ => 0) rfl ?_ ?_
  · go_wp2_with fail
    refine cb.mono ?_
    rintro x _ ⟨rfl, rfl⟩
    go_wp2_with fail
    go_step3
    exact ⟨rfl, ⟨_, _, _, _, _, _, _, _, _, _, _, _, _, _, _, _, _, _, _, _, _, _, _, _, _, _, _, _, _, _, _, _, _, _, _, _, _, _, _, _, rfl⟩, rfl⟩
  · rintro _ _ ⟨⟨u1, u2, u3, u4, u5, u6, u7, u8, u9, u10, u11, u12, u13, u14, u15, u16, u17, u18, u19, u20, u21, u22, u23, u24, u25, u26, u27, u28, u29, u30, u31, u32, u33, u34, u35, u36, u37, u38, u39, u40, rfl⟩, rfl⟩
    have cf := fail_nil w
    (try go_step3)
    go_wp2_with fail
    refine cf.mono ?_
    rintro x _ ⟨rfl, rfl⟩
    go_wp2_with fail
    (try simp only [jump_ret])
    (try simp only [Exit.inBlock, Exit.then]); refine bodyPost_ret (results_tmp2 rfl _ _ _) rfl ?_
    exact ⟨rfl, rfl⟩
theorem rdInt_nil (w : World) : Calls Tryd.prog 22 #[.pointer none] w fun e w' => e = .returned (.int .i64 0) ∧ w = w' := by
  have c := number_nil 59 w
  go_enter Tryd.func22, Tryd.ntmps22
  go_wp2_with fail
  refine c.mono ?_
  rintro x _ ⟨rfl, rfl⟩
  go_wp2_with fail
  go_ret
  exact ⟨rfl, rfl⟩
theorem rdText_nil (w : World) : Calls Tryd.prog 24 #[.pointer none] w fun e w' => e = .returned (.string ⟨#[]⟩) ∧ w = w' := by
  have c := number_nil 58 w
  have cf := fail_nil w
  go_enter Tryd.func24, Tryd.ntmps24
  go_wp2_with fail
  refine c.mono ?_
  rintro x _ ⟨rfl, rfl⟩
  go_wp2_with fail
  refine cf.mono ?_
  rintro x _ ⟨rfl, rfl⟩
  go_wp2_with fail
  go_ret
  exact ⟨rfl, rfl⟩
/-- How the loop of elements stands. -/
def ElI (p : Nat) (w : World) (Z : Option (List Int × List UInt8)) (v : Value) (wr : World) : Prop := ∃ (acc : List Int) (cur : List UInt8) (b : Bool) (f : Nat), wr.ownsRow w.heap.size 3 1 v acc.length (acc.map (Value.int .i64)) ∧ RdAt wr p ⟨cur.toArray⟩ b ∧ But p w wr ∧ (b = true → cur = []) ∧ cur.length < f ∧ acc.length + cur.length ≤ 100000000 ∧ Hid (Z = (elemsF intP f cur).map fun z => (acc ++ z.1, z.2))
set_option maxHeartbeats 2000000 in
set_option maxRecDepth 100000 in
theorem elemI_any (p : Nat) (hp : Past p) (s : List UInt8) (hs : s.length ≤ 100000000) (b : Bool) (w : World) (h : RdAt w p ⟨s.toArray⟩ b) (ht : Sane w) (he : ErrVars w) :
    Calls Tryd.prog 46 #[.pointer (some ⟨p, 0, none⟩), .func (Fn.func 22) #[.pointer (some ⟨p, 0, none⟩)] #[]] w (ReadsL p 3 (Value.int .i64) (if b = true then none else listP intP s) w) := by
  have cl := left_any p _ b w h
  have cf := fail_any p _ b w h
  have hl := h.lt
  by_cases h0 : b = true ∨ s = []
  · have hz : (if b = true then none else listP intP s) = none := by
      rcases h0 with h0 | h0
      · rw [if_pos h0]
      · subst h0; cases b <;> rfl
    have hv : (if b = true then 0 else ((⟨s.toArray⟩ : ByteArray).size : Int)) = 0 := by
      rcases h0 with h0 | h0
      · rw [if_pos h0]
      · subst h0; cases b <;> rfl
    rw [hz]
    rw [hv] at cl
    clear hz hv h0 h ht he
    unfold ReadsL
    go_enter Tryd.func46, Tryd.ntmps46
    go_wp2_with fail
    refine cl.mono ?_
    rintro x _ ⟨rfl, rfl⟩
    go_wp2_with fail
    refine cf.mono ?_
    rintro x w2 ⟨rfl, hR2, hB2⟩
    go_wp2_with fail
    go_ret
    exact ⟨rfl, hR2, hB2⟩
  · obtain ⟨rfl, hne⟩ : b = false ∧ s ≠ [] := by
      cases b
      · exact ⟨rfl, fun e => h0 (.inr e)⟩
      · exact absurd (.inl rfl) h0
    obtain ⟨c, r, rfl⟩ := List.exists_cons_of_ne_nil hne
    clear h0 hne
    rw [if_neg (by decide)] at cl ⊢
    rw [cons_size] at cl
    simp only [List.length_cons] at hs
    have hq0 : ((r.length : Int) + 1 == 0) = false := by rw [beq_eq_false_iff_ne]; omega
    obtain ⟨k0, k1, f0, f1⟩ := id h
    by_cases hc : c = 91
    · subst hc
      have hZ : listP intP (91 :: r) = elemsF intP (r.length + 1) r := by simp [listP]
      suffices key : ∀ Z, Z = elemsF intP (r.length + 1) r → Calls Tryd.prog 46 #[.pointer (some ⟨p, 0, none⟩), .func (Fn.func 22) #[.pointer (some ⟨p, 0, none⟩)] #[]] w (ReadsL p 3 (Value.int .i64) Z w) from key _ hZ
      clear hZ
      intro Z hZ
      have HZ : Hid (Z = (elemsF intP (r.length + 1) r).map fun z => (([] : List Int) ++ z.1, z.2)) := Lib.hid (by rw [hZ]; cases elemsF intP (r.length + 1) r <;> simp)
      clear hZ
      have hR := h.set ⟨r.toArray⟩
      have hB := (But.refl p w).set 0 (.string ⟨r.toArray⟩)
      have e1 := cons_size 91 r
      have e2 := tail_ba 91 r
      go_enter Tryd.func46, Tryd.ntmps46
      go_wp2_with fail
      refine cl.mono ?_
      rintro x _ ⟨rfl, rfl⟩
      go_wp2_with fail
      have hle : w.heap.size ≤ w.heap.size := Nat.le_refl _
      clear h k0 k1 f0 f1 cl cf e1 e2
      go_loopw [5] (fun v wr => ElI p w Z v wr) (fun _ wr => leftOf wr p)
      case atStart => exact ⟨[], r, false, r.length + 1, World.ownsRow_nil _ _ _ _, hR, hB, by simp, by omega, by simp; omega, HZ⟩
      case round =>
        clear hR hB HZ
        obtain ⟨acc, cur, b, f, hown, hR, hB, hbc, hf, hlen, HZ⟩ := hrel
        have cl := left_any p _ b wr hR
        rcases cur with _ | ⟨c, q⟩
        · have hv : (if b = true then 0 else ((⟨([] : List UInt8).toArray⟩ : ByteArray).size : Int)) = 0 := by cases b <;> rfl
          rw [hv] at cl
          rw [elemsF_nil] at HZ
          have cf := fail_any p _ b wr hR
          clear hv hbc hR hlen hf
          go_wp2_with fail
          refine cl.mono ?_
          rintro x _ ⟨rfl, rfl⟩
          go_wp2_with fail
          refine cl.mono ?_
          rintro x _ ⟨rfl, rfl⟩
          go_wp2_with fail
          refine cf.mono ?_
          rintro x w2 ⟨rfl, hR2, hB2⟩
          go_wp2_with fail
          go_ret
          rw [show Z = none from HZ.out]
          exact ⟨rfl, hR2, hB.trans hB2⟩
        · obtain rfl : b = false := by
            cases b
            · rfl
            · exact absurd (hbc rfl) (by simp)
          rw [if_neg (by decide), cons_size] at cl
          have hlo := leftOf_at hR
          obtain ⟨k0, k1, f0, f1⟩ := id hR
          simp only [List.length_cons] at hlen hf hlo
          have hq1 : ((q.length : Int) + 1 == 0) = false := by rw [beq_eq_false_iff_ne]; omega
          by_cases hc : c = 93
          · subst hc
            have e1 := cons_size 93 q
            have e2 := tail_ba 93 q
            have HV : Hid (Z = some (acc, q)) := Lib.hid (by
              cases f with
              | zero => omega
              | succ f => rw [HZ.out]; simp [elemsF])
            have hl2 := hR.lt
            have hR2 := hR.set ⟨q.toArray⟩
            have hB2 := hB.set 0 (.string ⟨q.toArray⟩)
            have ho2 : (wr.setCell ⟨p, 0, none⟩ (.string ⟨q.toArray⟩)).ownsRow w.heap.size 3 1 u5 acc.length (acc.map (Value.int .i64)) := hown.kept ((But.refl p wr).set 0 (.string ⟨q.toArray⟩)).grown (by
              cases hv : u5.ownBlock with
              | none => exact .inl rfl
              | some g => exact .inr (fun e => by injection e with e; have := (hown.lt g hv).1; omega))
            clear hown hR HZ
            go_wp2_with fail
            refine cl.mono ?_
            rintro x _ ⟨rfl, rfl⟩
            go_wp2_with fail
            refine cl.mono ?_
            rintro x _ ⟨rfl, rfl⟩
            go_wp2_with fail
            go_ret
            rw [HV.out]
            exact ⟨_, rfl, ho2, hR2, hB2⟩
          · have hcb : ((c.toNat : Int) != 93) = true := by
              rw [bne_iff_ne]; intro e; exact hc (UInt8.toNat_inj.1 (by rw [show (93 : UInt8).toNat = 93 from rfl]; omega))
            have HE : Hid (Z = match intP (c :: q) with | none => none | some (x, y) => (elemsF intP (f - 1) y).map fun z => ((acc ++ [x]) ++ z.1, z.2)) := Lib.hid (by
              cases f with
              | zero => omega
              | succ f =>
                rw [HZ.out]
                simp only [elemsF, if_neg hc, Nat.add_sub_cancel]
                rcases intP (c :: q) with _ | ⟨x, y⟩
                · rfl
                · simp only
                  rcases elemsF intP f y with _ | ⟨m, y2⟩
                  · rfl
                  · simp)
            have hle2 := hB.size
            have hpw : p < w.heap.size := hl
            have cn := rdInt_any p hp ⟨(c :: q).toArray⟩ (by rw [cons_size]; omega) false wr hR (ht.but hB hp) (he.but hB hp)
            rw [if_neg (by decide)] at cn
            clear HZ hR hc
            have cx : Calls Tryd.prog 22 #[.pointer (some ⟨p, 0, none⟩)] wr fun e w' => ∃ (n : Int) (y : List UInt8) (b : Bool), e = .returned ((Value.int .i64) n) ∧ RdAt w' p ⟨y.toArray⟩ b ∧ But p wr w' ∧ (b = true → y = []) ∧ y.length ≤ q.length ∧ Hid (Z = (elemsF intP (f - 1) y).map fun z => ((acc ++ [n]) ++ z.1, z.2)) := cn.mono fun e w' h => by
              change Reads p _ _ (intP (c :: q)) wr e w' at h
              rcases hx : intP (c :: q) with _ | ⟨n, y⟩ <;> rw [hx] at h HE <;> obtain ⟨h1, h2, h3⟩ := h
              · exact ⟨(0 : Int), [], true, h1, h2, h3, fun _ => rfl, Nat.zero_le _, Lib.hid (by rw [HE.out, elemsF_nil]; rfl)⟩
              · have := intP_short hx
                simp only [List.length_cons] at this
                exact ⟨n, y, false, h1, h2, h3, by simp, by omega, HE⟩
            obtain ⟨i0, hi, hz0, hz1, hz2⟩ := info_parts int_info
            clear cn HE k1 f0 f1
            go_wp2_with fail
            refine cl.mono ?_
            rintro x _ ⟨rfl, rfl⟩
            go_wp2_with fail
            refine cx.mono ?_
            rintro x w1 ⟨n, y, b, rfl, hR1, hB1, hy1, hy2, HZ⟩
            have hpo : u5.ownBlock = none ∨ u5.ownBlock ≠ some p := by
              cases hv : u5.ownBlock with
              | none => exact .inl rfl
              | some g => exact .inr (fun e => by injection e with e; have := (hown.lt g hv).1; omega)
            have hol := fun k hk => (hown.lt k hk).1
            have hown1 := (hown.kept hB1.grown hpo).alloc (.cells #[(Value.int .i64) n] 3)
            have hnew : ∀ j u, [(Value.int .i64) n][j]? = some u → (w1.alloc (.cells #[(Value.int .i64) n] 3)).cell? ((⟨w1.heap.size, 0, none⟩ : Addr).add j) = some u := by
              intro j u hj
              match j, hj with
              | 0, hj => simp at hj; subst hj; exact Lib.cell_of_heap (heap_alloc_new w1 _) 0
            have hs1 := hB1.size
            clear cl cx k0 hown
            go_wp2_with (at_builtin; go_must (refine wpList_append_own _ rfl (.tmp 38) (.tmp 41) 22 rfl w.heap.size 3 i0 _ 1 8 Tryd.underlying22 hi hz0 hz1 hz2 rfl (by decide) _ _ _ rfl hown1 ⟨w1.heap.size, 0, none⟩ 1 1 [(Value.int .i64) n] rfl rfl hnew (by simp [Value.oneCell']) (by unfold maxLen; omega) (by omega) (by simp; omega) ?_); intro v' w2 hown' hgrow _)
            have hr : u5.ownBlock ≠ some p := fun e => by have := hol p e; omega
            have hR2 := (hR1.below (below_alloc1 w1 (.cells #[(Value.int .i64) n] 3))).grown hgrow hr
            have hB2 := ((hB.trans hB1).trans (But.of (below_alloc1 w1 (.cells #[(Value.int .i64) n] 3)))).then hgrow hol
            have hlo2 := leftOf_at hR2
            rw [hlo2, hlo]
            clear hnew hown1 hgrow hR1 hB1 hB hlo hlo2
            go_roundw
            case rel => exact ⟨acc ++ [n], y, b, f - 1, by simpa using hown', hR2, hB2, hy1, by omega, by simp; omega, HZ⟩
            case measure => omega
    · have hZ : listP intP (c :: r) = none := by simp [listP, hc]
      rw [hZ]
      unfold ReadsL
      have hcb : ((c.toNat : Int) != 91) = true := by
        rw [bne_iff_ne]; intro e; exact hc (UInt8.toNat_inj.1 (by rw [show (91 : UInt8).toNat = 91 from rfl]; omega))
      go_enter Tryd.func46, Tryd.ntmps46
      go_wp2_with fail
      refine cl.mono ?_
      rintro x _ ⟨rfl, rfl⟩
      go_wp2_with fail
      refine cf.mono ?_
      rintro x w2 ⟨rfl, hR2, hB2⟩
      go_wp2_with fail
      go_ret
      exact ⟨rfl, hR2, hB2⟩
theorem rdInts_any (p : Nat) (hp : Past p) (s : List UInt8) (hs : s.length ≤ 100000000) (b : Bool) (w : World) (h : RdAt w p ⟨s.toArray⟩ b) (ht : Sane w) (he : ErrVars w) :
    Calls Tryd.prog 27 #[.pointer (some ⟨p, 0, none⟩)] w (ReadsL p 3 (Value.int .i64) (if b = true then none else listP intP s) w) := by
  have c := elemI_any p hp s hs b w h ht he
  generalize (if b = true then none else listP intP s) = z at c ⊢
  rcases z with _ | ⟨l, r⟩
  · unfold ReadsL at c ⊢
    dsimp only at c ⊢
    clear h ht he
    go_enter Tryd.func27, Tryd.ntmps27
    go_wp2_with fail
    refine c.mono ?_
    rintro x w1 ⟨rfl, hR, hB⟩
    go_wp2_with fail
    go_ret
    exact ⟨rfl, hR, hB⟩
  · unfold ReadsL at c ⊢
    dsimp only at c ⊢
    clear h ht he
    go_enter Tryd.func27, Tryd.ntmps27
    go_wp2_with fail
    refine c.mono ?_
    rintro x w1 ⟨v, rfl, hv, hR, hB⟩
    go_wp2_with fail
    go_ret
    exact ⟨_, rfl, hv, hR, hB⟩
theorem elemI_nil (f : Value) (w : World) :
    Calls Tryd.prog 46 #[.pointer none, f] w fun e w' => e = .returned (.slice none 0 0) ∧ w = w' := by
  have cl := left_nil w
  have cf := fail_nil w
  go_enter Tryd.func46, Tryd.ntmps46
  go_wp2_with fail
  refine cl.mono ?_
  rintro x _ ⟨rfl, rfl⟩
  go_wp2_with fail
  refine cf.mono ?_
  rintro x _ ⟨rfl, rfl⟩
  go_wp2_with fail
  go_ret
  exact ⟨rfl, rfl⟩
theorem rdInts_nil (w : World) :
    Calls Tryd.prog 27 #[.pointer none] w fun e w' => e = .returned (.slice none 0 0) ∧ w = w' := by
  have c := fun f => elemI_nil f w
  go_enter Tryd.func27, Tryd.ntmps27
  go_wp2_with fail
  refine (c _).mono ?_
  rintro x _ ⟨rfl, rfl⟩
  go_wp2_with fail
  go_ret
  exact ⟨rfl, rfl⟩
/-- How the loop of elements stands. -/
def ElT (p : Nat) (w : World) (Z : Option (List ByteArray × List UInt8)) (v : Value) (wr : World) : Prop := ∃ (acc : List ByteArray) (cur : List UInt8) (b : Bool) (f : Nat), wr.ownsRow w.heap.size 9 1 v acc.length (acc.map Value.string) ∧ RdAt wr p ⟨cur.toArray⟩ b ∧ But p w wr ∧ (b = true → cur = []) ∧ cur.length < f ∧ acc.length + cur.length ≤ 100000000 ∧ Hid (Z = (elemsF txtP f cur).map fun z => (acc ++ z.1, z.2))
set_option maxHeartbeats 2000000 in
set_option maxRecDepth 100000 in
theorem elemT_any (p : Nat) (hp : Past p) (s : List UInt8) (hs : s.length ≤ 100000000) (b : Bool) (w : World) (h : RdAt w p ⟨s.toArray⟩ b) (ht : Sane w) (he : ErrVars w) :
    Calls Tryd.prog 48 #[.pointer (some ⟨p, 0, none⟩), .func (Fn.func 24) #[.pointer (some ⟨p, 0, none⟩)] #[]] w (ReadsL p 9 Value.string (if b = true then none else listP txtP s) w) := by
  have cl := left_any p _ b w h
  have cf := fail_any p _ b w h
  have hl := h.lt
  by_cases h0 : b = true ∨ s = []
  · have hz : (if b = true then none else listP txtP s) = none := by
      rcases h0 with h0 | h0
      · rw [if_pos h0]
      · subst h0; cases b <;> rfl
    have hv : (if b = true then 0 else ((⟨s.toArray⟩ : ByteArray).size : Int)) = 0 := by
      rcases h0 with h0 | h0
      · rw [if_pos h0]
      · subst h0; cases b <;> rfl
    rw [hz]
    rw [hv] at cl
    clear hz hv h0 h ht he
    unfold ReadsL
    go_enter Tryd.func48, Tryd.ntmps48
    go_wp2_with fail
    refine cl.mono ?_
    rintro x _ ⟨rfl, rfl⟩
    go_wp2_with fail
    refine cf.mono ?_
    rintro x w2 ⟨rfl, hR2, hB2⟩
    go_wp2_with fail
    go_ret
    exact ⟨rfl, hR2, hB2⟩
  · obtain ⟨rfl, hne⟩ : b = false ∧ s ≠ [] := by
      cases b
      · exact ⟨rfl, fun e => h0 (.inr e)⟩
      · exact absurd (.inl rfl) h0
    obtain ⟨c, r, rfl⟩ := List.exists_cons_of_ne_nil hne
    clear h0 hne
    rw [if_neg (by decide)] at cl ⊢
    rw [cons_size] at cl
    simp only [List.length_cons] at hs
    have hq0 : ((r.length : Int) + 1 == 0) = false := by rw [beq_eq_false_iff_ne]; omega
    obtain ⟨k0, k1, f0, f1⟩ := id h
    by_cases hc : c = 91
    · subst hc
      have hZ : listP txtP (91 :: r) = elemsF txtP (r.length + 1) r := by simp [listP]
      suffices key : ∀ Z, Z = elemsF txtP (r.length + 1) r → Calls Tryd.prog 48 #[.pointer (some ⟨p, 0, none⟩), .func (Fn.func 24) #[.pointer (some ⟨p, 0, none⟩)] #[]] w (ReadsL p 9 Value.string Z w) from key _ hZ
      clear hZ
      intro Z hZ
      have HZ : Hid (Z = (elemsF txtP (r.length + 1) r).map fun z => (([] : List ByteArray) ++ z.1, z.2)) := Lib.hid (by rw [hZ]; cases elemsF txtP (r.length + 1) r <;> simp)
      clear hZ
      have hR := h.set ⟨r.toArray⟩
      have hB := (But.refl p w).set 0 (.string ⟨r.toArray⟩)
      have e1 := cons_size 91 r
      have e2 := tail_ba 91 r
      go_enter Tryd.func48, Tryd.ntmps48
      go_wp2_with fail
      refine cl.mono ?_
      rintro x _ ⟨rfl, rfl⟩
      go_wp2_with fail
      have hle : w.heap.size ≤ w.heap.size := Nat.le_refl _
      clear h k0 k1 f0 f1 cl cf e1 e2
      go_loopw [5] (fun v wr => ElT p w Z v wr) (fun _ wr => leftOf wr p)
      case atStart => exact ⟨[], r, false, r.length + 1, World.ownsRow_nil _ _ _ _, hR, hB, by simp, by omega, by simp; omega, HZ⟩
      case round =>
        clear hR hB HZ
        obtain ⟨acc, cur, b, f, hown, hR, hB, hbc, hf, hlen, HZ⟩ := hrel
        have cl := left_any p _ b wr hR
        rcases cur with _ | ⟨c, q⟩
        · have hv : (if b = true then 0 else ((⟨([] : List UInt8).toArray⟩ : ByteArray).size : Int)) = 0 := by cases b <;> rfl
          rw [hv] at cl
          rw [elemsF_nil] at HZ
          have cf := fail_any p _ b wr hR
          clear hv hbc hR hlen hf
          go_wp2_with fail
          refine cl.mono ?_
          rintro x _ ⟨rfl, rfl⟩
          go_wp2_with fail
          refine cl.mono ?_
          rintro x _ ⟨rfl, rfl⟩
          go_wp2_with fail
          refine cf.mono ?_
          rintro x w2 ⟨rfl, hR2, hB2⟩
          go_wp2_with fail
          go_ret
          rw [show Z = none from HZ.out]
          exact ⟨rfl, hR2, hB.trans hB2⟩
        · obtain rfl : b = false := by
            cases b
            · rfl
            · exact absurd (hbc rfl) (by simp)
          rw [if_neg (by decide), cons_size] at cl
          have hlo := leftOf_at hR
          obtain ⟨k0, k1, f0, f1⟩ := id hR
          simp only [List.length_cons] at hlen hf hlo
          have hq1 : ((q.length : Int) + 1 == 0) = false := by rw [beq_eq_false_iff_ne]; omega
          by_cases hc : c = 93
          · subst hc
            have e1 := cons_size 93 q
            have e2 := tail_ba 93 q
            have HV : Hid (Z = some (acc, q)) := Lib.hid (by
              cases f with
              | zero => omega
              | succ f => rw [HZ.out]; simp [elemsF])
            have hl2 := hR.lt
            have hR2 := hR.set ⟨q.toArray⟩
            have hB2 := hB.set 0 (.string ⟨q.toArray⟩)
            have ho2 : (wr.setCell ⟨p, 0, none⟩ (.string ⟨q.toArray⟩)).ownsRow w.heap.size 9 1 u5 acc.length (acc.map Value.string) := hown.kept ((But.refl p wr).set 0 (.string ⟨q.toArray⟩)).grown (by
              cases hv : u5.ownBlock with
              | none => exact .inl rfl
              | some g => exact .inr (fun e => by injection e with e; have := (hown.lt g hv).1; omega))
            clear hown hR HZ
            go_wp2_with fail
            refine cl.mono ?_
            rintro x _ ⟨rfl, rfl⟩
            go_wp2_with fail
            refine cl.mono ?_
            rintro x _ ⟨rfl, rfl⟩
            go_wp2_with fail
            go_ret
            rw [HV.out]
            exact ⟨_, rfl, ho2, hR2, hB2⟩
          · have hcb : ((c.toNat : Int) != 93) = true := by
              rw [bne_iff_ne]; intro e; exact hc (UInt8.toNat_inj.1 (by rw [show (93 : UInt8).toNat = 93 from rfl]; omega))
            have HE : Hid (Z = match txtP (c :: q) with | none => none | some (x, y) => (elemsF txtP (f - 1) y).map fun z => ((acc ++ [x]) ++ z.1, z.2)) := Lib.hid (by
              cases f with
              | zero => omega
              | succ f =>
                rw [HZ.out]
                simp only [elemsF, if_neg hc, Nat.add_sub_cancel]
                rcases txtP (c :: q) with _ | ⟨x, y⟩
                · rfl
                · simp only
                  rcases elemsF txtP f y with _ | ⟨m, y2⟩
                  · rfl
                  · simp)
            have hle2 := hB.size
            have hpw : p < w.heap.size := hl
            have cn := rdText_txt p hp ⟨(c :: q).toArray⟩ (by rw [cons_size]; omega) false wr hR (ht.but hB hp) (he.but hB hp)
            rw [if_neg (by decide)] at cn
            clear HZ hR hc
            have cx : Calls Tryd.prog 24 #[.pointer (some ⟨p, 0, none⟩)] wr fun e w' => ∃ (n : ByteArray) (y : List UInt8) (b : Bool), e = .returned (Value.string n) ∧ RdAt w' p ⟨y.toArray⟩ b ∧ But p wr w' ∧ (b = true → y = []) ∧ y.length ≤ q.length ∧ Hid (Z = (elemsF txtP (f - 1) y).map fun z => ((acc ++ [n]) ++ z.1, z.2)) := cn.mono fun e w' h => by
              change Reads p _ _ (txtP (c :: q)) wr e w' at h
              rcases hx : txtP (c :: q) with _ | ⟨n, y⟩ <;> rw [hx] at h HE <;> obtain ⟨h1, h2, h3⟩ := h
              · exact ⟨(⟨#[]⟩ : ByteArray), [], true, h1, h2, h3, fun _ => rfl, Nat.zero_le _, Lib.hid (by rw [HE.out, elemsF_nil]; rfl)⟩
              · have := txtP_short hx
                simp only [List.length_cons] at this
                exact ⟨n, y, false, h1, h2, h3, by simp, by omega, HE⟩
            obtain ⟨i0, hi, hz0, hz1, hz2⟩ := info_parts str_info
            clear cn HE k1 f0 f1
            go_wp2_with fail
            refine cl.mono ?_
            rintro x _ ⟨rfl, rfl⟩
            go_wp2_with fail
            refine cx.mono ?_
            rintro x w1 ⟨n, y, b, rfl, hR1, hB1, hy1, hy2, HZ⟩
            have hpo : u5.ownBlock = none ∨ u5.ownBlock ≠ some p := by
              cases hv : u5.ownBlock with
              | none => exact .inl rfl
              | some g => exact .inr (fun e => by injection e with e; have := (hown.lt g hv).1; omega)
            have hol := fun k hk => (hown.lt k hk).1
            have hown1 := (hown.kept hB1.grown hpo).alloc (.cells #[Value.string n] 9)
            have hnew : ∀ j u, [Value.string n][j]? = some u → (w1.alloc (.cells #[Value.string n] 9)).cell? ((⟨w1.heap.size, 0, none⟩ : Addr).add j) = some u := by
              intro j u hj
              match j, hj with
              | 0, hj => simp at hj; subst hj; exact Lib.cell_of_heap (heap_alloc_new w1 _) 0
            have hs1 := hB1.size
            clear cl cx k0 hown
            go_wp2_with (at_builtin; go_must (refine wpList_append_own _ rfl (.tmp 38) (.tmp 41) 23 rfl w.heap.size 9 i0 _ 1 16 Tryd.underlying23 hi hz0 hz1 hz2 rfl (by decide) _ _ _ rfl hown1 ⟨w1.heap.size, 0, none⟩ 1 1 [Value.string n] rfl rfl hnew (by simp [Value.oneCell']) (by unfold maxLen; omega) (by omega) (by simp; omega) ?_); intro v' w2 hown' hgrow _)
            have hr : u5.ownBlock ≠ some p := fun e => by have := hol p e; omega
            have hR2 := (hR1.below (below_alloc1 w1 (.cells #[Value.string n] 9))).grown hgrow hr
            have hB2 := ((hB.trans hB1).trans (But.of (below_alloc1 w1 (.cells #[Value.string n] 9)))).then hgrow hol
            have hlo2 := leftOf_at hR2
            rw [hlo2, hlo]
            clear hnew hown1 hgrow hR1 hB1 hB hlo hlo2
            go_roundw
            case rel => exact ⟨acc ++ [n], y, b, f - 1, by simpa using hown', hR2, hB2, hy1, by omega, by simp; omega, HZ⟩
            case measure => omega
    · have hZ : listP txtP (c :: r) = none := by simp [listP, hc]
      rw [hZ]
      unfold ReadsL
      have hcb : ((c.toNat : Int) != 91) = true := by
        rw [bne_iff_ne]; intro e; exact hc (UInt8.toNat_inj.1 (by rw [show (91 : UInt8).toNat = 91 from rfl]; omega))
      go_enter Tryd.func48, Tryd.ntmps48
      go_wp2_with fail
      refine cl.mono ?_
      rintro x _ ⟨rfl, rfl⟩
      go_wp2_with fail
      refine cf.mono ?_
      rintro x w2 ⟨rfl, hR2, hB2⟩
      go_wp2_with fail
      go_ret
      exact ⟨rfl, hR2, hB2⟩
theorem rdTexts_any (p : Nat) (hp : Past p) (s : List UInt8) (hs : s.length ≤ 100000000) (b : Bool) (w : World) (h : RdAt w p ⟨s.toArray⟩ b) (ht : Sane w) (he : ErrVars w) :
    Calls Tryd.prog 30 #[.pointer (some ⟨p, 0, none⟩)] w (ReadsL p 9 Value.string (if b = true then none else listP txtP s) w) := by
  have c := elemT_any p hp s hs b w h ht he
  generalize (if b = true then none else listP txtP s) = z at c ⊢
  rcases z with _ | ⟨l, r⟩
  · unfold ReadsL at c ⊢
    dsimp only at c ⊢
    clear h ht he
    go_enter Tryd.func30, Tryd.ntmps30
    go_wp2_with fail
    refine c.mono ?_
    rintro x w1 ⟨rfl, hR, hB⟩
    go_wp2_with fail
    go_ret
    exact ⟨rfl, hR, hB⟩
  · unfold ReadsL at c ⊢
    dsimp only at c ⊢
    clear h ht he
    go_enter Tryd.func30, Tryd.ntmps30
    go_wp2_with fail
    refine c.mono ?_
    rintro x w1 ⟨v, rfl, hv, hR, hB⟩
    go_wp2_with fail
    go_ret
    exact ⟨_, rfl, hv, hR, hB⟩
theorem elemT_nil (f : Value) (w : World) :
    Calls Tryd.prog 48 #[.pointer none, f] w fun e w' => e = .returned (.slice none 0 0) ∧ w = w' := by
  have cl := left_nil w
  have cf := fail_nil w
  go_enter Tryd.func48, Tryd.ntmps48
  go_wp2_with fail
  refine cl.mono ?_
  rintro x _ ⟨rfl, rfl⟩
  go_wp2_with fail
  refine cf.mono ?_
  rintro x _ ⟨rfl, rfl⟩
  go_wp2_with fail
  go_ret
  exact ⟨rfl, rfl⟩
theorem rdTexts_nil (w : World) :
    Calls Tryd.prog 30 #[.pointer none] w fun e w' => e = .returned (.slice none 0 0) ∧ w = w' := by
  have c := fun f => elemT_nil f w
  go_enter Tryd.func30, Tryd.ntmps30
  go_wp2_with fail
  refine (c _).mono ?_
  rintro x _ ⟨rfl, rfl⟩
  go_wp2_with fail
  go_ret
  exact ⟨rfl, rfl⟩
end Go.Proofs.YtfnlihadibnnoaaDoor
