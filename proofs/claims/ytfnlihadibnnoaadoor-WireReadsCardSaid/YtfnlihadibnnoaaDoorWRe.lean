/- The reference's Ints and Texts of a reader: each walked once. -/
import Derived.Test.YtfnlihadibnnoaaDoorWRr
import Derived.Test.YtfnlihadibnnoaaDoorWLv
namespace Go.Proofs.YtfnlihadibnnoaaDoor
open Go Go.RowKit Go.Sort Go.Lib

/-- A call of the reference's reader that comes to a list. -/
def RefReadsL {α : Type} (p : Nat) (s : ByteArray) (el : TypeId) (cell : α → Value) (z : Option (List α × List UInt8)) (w : World) (e : Ending) (w' : World) : Prop :=
  match z with
  | some (l, r) => ∃ v, e = .returned v ∧ w'.ownsRow w.heap.size el 1 v l.length (l.map cell) ∧ (∃ k', k' ≤ s.size ∧ r = s.data.toList.drop k' ∧ RfAt w' p s k' false) ∧ But p w w'
  | none => e = .returned (.slice none 0 0) ∧ (∃ k', k' ≤ s.size ∧ RfAt w' p s k' true) ∧ But p w w'
theorem RfAt.grown {w w' : World} {p : Nat} {s : ByteArray} {k : Nat} {b : Bool} {row : Option Nat} (h : RfAt w p s k b) (hg : w.grownBy w' row) (hr : row ≠ some p) : RfAt w' p s k b := by
  have hb := hg.block p h.lt (fun e => hr e.symm)
  obtain ⟨⟨h0, h1, h2⟩, f0, f1, f2⟩ := h
  exact ⟨⟨(World.cell?_of_block hb).trans h0, (World.cell?_of_block hb).trans h1, (World.cell?_of_block hb).trans h2⟩, (World.frozen?_of_block hb).trans f0, (World.frozen?_of_block hb).trans f1, (World.frozen?_of_block hb).trans f2⟩
/-- How far a reader of the reference has come, by the world. -/
def placeOf (w : World) (p : Nat) : Nat := match w.cell? ⟨p, 1, none⟩ with | some (.int _ k) => k.toNat | _ => 0
theorem placeOf_at {w : World} {p : Nat} {s : ByteArray} {k : Nat} {b : Bool} (h : RfAt w p s k b) : placeOf w p = k := by
  unfold placeOf; rw [h.1.2.1]; simp
theorem drop_len {s : ByteArray} {k' : Nat} {q : List UInt8} (_hk' : k' ≤ s.size) (h : q = s.data.toList.drop k') : q.length = s.size - k' := by
  rw [h, List.length_drop, ← ba_size]
/-- How the loop stands. -/
def ReI (p : Nat) (s : ByteArray) (w : World) (Z : Option (List Int × List UInt8)) (v : Value) (wr : World) : Prop := ∃ (acc : List Int) (k f : Nat), wr.ownsRow w.heap.size 3 1 v acc.length (acc.map (Value.int .i64)) ∧ RfAt wr p s k false ∧ But p w wr ∧ k ≤ s.size ∧ s.size - k < f ∧ acc.length ≤ k ∧ Hid (Z = (elemsF intP f (s.data.toList.drop k)).map fun z => (acc ++ z.1, z.2))
set_option maxHeartbeats 2000000 in
set_option maxRecDepth 100000 in
theorem rfInts_any (p : Nat) (s : ByteArray) (hs : s.size ≤ 100000000) (k : Nat) (hk : k ≤ s.size) (b : Bool) (w : World) (h : RfAt w p s k b) :
    Calls Tryd.prog 28 #[.pointer (some ⟨p, 0, none⟩)] w (RefReadsL p s 3 (Value.int .i64) (if b = true then none else listP intP (s.data.toList.drop k)) w) := by
  have HSZ := Lib.hid (ba_size s)
  have cb := rfByte_any p s hs k hk b 91 w h
  have hl := h.lt
  cases hh : hit s k b 91
  · have hz : (if b = true then none else listP intP (s.data.toList.drop k)) = none := by
      cases b
      · rw [if_neg (by decide)]
        unfold hit at hh
        rcases hd : s.data.toList.drop k with _ | ⟨a, r⟩
        · rfl
        · rw [hd] at hh
          simp only [listP]
          rw [if_neg (fun e => by subst e; simp at hh)]
      · rfl
    rw [hh] at cb
    rw [hz]
    unfold RefReadsL
    dsimp only
    clear hz h HSZ
    go_enter Tryd.func28, Tryd.ntmps28
    go_wp2_with fail
    refine cb.mono ?_
    rintro x w1 ⟨rfl, hR, -, hB⟩
    rw [if_neg (by decide)] at hR
    have cf := rfFail_any p s k b w1 hR
    go_wp2_with fail
    refine cf.mono ?_
    rintro x w2 ⟨rfl, hR2, hB2⟩
    go_wp2_with fail
    go_ret
    exact ⟨rfl, ⟨k, hk, hR2⟩, hB.trans hB2⟩
  · obtain rfl : b = false := by
      cases b
      · rfl
      · simp [hit] at hh
    obtain ⟨r, hd⟩ : ∃ r, s.data.toList.drop k = 91 :: r := by
      unfold hit at hh
      rcases hd : s.data.toList.drop k with _ | ⟨a, r⟩
      · rw [hd] at hh; simp at hh
      · rw [hd] at hh
        exact ⟨r, by rw [show a = 91 by simpa using hh]⟩
    have hr : r = s.data.toList.drop (k + 1) := by rw [← List.drop_drop, hd]; rfl
    have hk1 : k + 1 ≤ s.size := by have := congrArg List.length hd; rw [List.length_drop, List.length_cons] at this; have := HSZ.out; omega
    rw [hh] at cb
    rw [if_neg (by decide), hd]
    suffices key : ∀ Z, Z = elemsF intP (r.length + 1) r → Calls Tryd.prog 28 #[.pointer (some ⟨p, 0, none⟩)] w (RefReadsL p s 3 (Value.int .i64) Z w) from key _ (by simp [listP])
    intro Z hZ
    have HZ : Hid (Z = (elemsF intP (r.length + 1) (s.data.toList.drop (k + 1))).map fun z => (([] : List Int) ++ z.1, z.2)) := Lib.hid (by rw [hZ, ← hr]; cases elemsF intP (r.length + 1) r <;> simp)
    have hrl := drop_len hk1 hr
    clear hZ h hd hr
    go_enter Tryd.func28, Tryd.ntmps28
    go_wp2_with fail
    refine cb.mono ?_
    rintro x w1 ⟨rfl, hR, -, hB⟩
    rw [if_pos rfl] at hR
    clear cb
    go_wp2_with fail
    go_loopw [3] (fun v wr => ReI p s w Z v wr) (fun _ wr => s.size - placeOf wr p)
    case atStart => exact ⟨[], k + 1, r.length + 1, World.ownsRow_nil _ _ _ _, hR, hB, hk1, by omega, by simp, HZ⟩
    case round =>
      clear hR hB HZ
      obtain ⟨acc, k, f, hown, hR, hB, hk, hf, hacc, HZ⟩ := hrel
      have hpl := placeOf_at hR
      have cb := rfByte_any p s hs k hk false 93 wr hR
      have hpo : u3.ownBlock = none ∨ u3.ownBlock ≠ some p := by
        cases hv : u3.ownBlock with
        | none => exact .inl rfl
        | some g => exact .inr (fun e => by injection e with e; have := (hown.lt g hv).1; omega)
      cases hh : hit s k false 93
      · have HE : Hid (Z = match intP (s.data.toList.drop k) with | none => none | some (x, y) => (elemsF intP (f - 1) y).map fun z => ((acc ++ [x]) ++ z.1, z.2)) := Lib.hid (by
          rw [HZ.out]
          unfold hit at hh
          cases f with
          | zero => omega
          | succ f =>
            rcases hd : s.data.toList.drop k with _ | ⟨a, q⟩
            · rfl
            · rw [hd] at hh
              have ha : a ≠ 93 := fun e => by subst e; simp at hh
              simp only [elemsF, if_neg ha, Nat.add_sub_cancel]
              rcases intP (a :: q) with _ | ⟨x, y⟩
              · rfl
              · simp only
                rcases elemsF intP f y with _ | ⟨m, y2⟩
                · rfl
                · simp)
        rw [hh] at cb
        clear HZ hR
        go_wp2_with fail
        refine cb.mono ?_
        rintro x w2 ⟨rfl, hR2, -, hB2⟩
        rw [if_neg (by decide)] at hR2
        have hown2 := hown.kept hB2.grown hpo
        have hB3 := hB.trans hB2
        have cn := rfInt_any p s hs k hk false w2 hR2
        rw [if_neg (by decide)] at cn
        change Calls _ _ _ _ (RefReads p s _ _ (intP (s.data.toList.drop k)) w2) at cn
        clear cb hown hB
        have hol := fun k hk => (hown2.lt k hk).1
        have hs2 := hB3.size
        obtain ⟨i0, hi, hz0, hz1, hz2⟩ := info_parts int_info
        rcases hx : intP (s.data.toList.drop k) with _ | ⟨n, y⟩
        · rw [hx] at cn HE
          unfold RefReads at cn
          dsimp only at cn
          go_wp2_with fail
          refine cn.mono ?_
          rintro x w3 ⟨rfl, ⟨k', hk', hR3⟩, hB4⟩
          have hown3 := (hown2.kept hB4.grown hpo).alloc (.cells #[(Value.int .i64) (0 : Int)] 3)
          have hnew : ∀ j u, [(Value.int .i64) (0 : Int)][j]? = some u → (w3.alloc (.cells #[(Value.int .i64) (0 : Int)] 3)).cell? ((⟨w3.heap.size, 0, none⟩ : Addr).add j) = some u := by
            intro j u hj
            match j, hj with
            | 0, hj => simp at hj; subst hj; exact Lib.cell_of_heap (heap_alloc_new w3 _) 0
          have hs3 := hB4.size
          clear cn hown2
          go_wp2_with (at_builtin; go_must (refine wpList_append_own _ rfl (.tmp 17) (.tmp 20) 22 rfl w.heap.size 3 i0 _ 1 8 Tryd.underlying22 hi hz0 hz1 hz2 rfl (by decide) _ _ _ rfl hown3 ⟨w3.heap.size, 0, none⟩ 1 1 [(Value.int .i64) (0 : Int)] rfl rfl hnew (by simp [Value.oneCell']) (by unfold maxLen; omega) (by omega) (by simp; omega) ?_); intro v' w4 hown' hgrow _)
          have hr : u3.ownBlock ≠ some p := fun e => by have := hol p e; omega
          have hR4 := (hR3.below (below_alloc1 w3 (.cells #[(Value.int .i64) (0 : Int)] 3))).grown hgrow hr
          have hB5 := ((hB3.trans hB4).trans (But.of (below_alloc1 w3 (.cells #[(Value.int .i64) (0 : Int)] 3)))).then hgrow hol
          have cbad := rfBad_any p s k' true w4 hR4
          clear hown' hgrow hown3 hnew
          go_wp2_with fail
          refine cbad.mono ?_
          rintro x _ ⟨rfl, rfl⟩
          go_wp2_with fail
          go_ret
          rw [show Z = none from HE.out]
          exact ⟨rfl, ⟨k', hk', hR4⟩, hB5⟩
        · rw [hx] at cn HE
          have hsh := intP_short hx
          rw [List.length_drop, ← HSZ.out] at hsh
          unfold RefReads at cn
          dsimp only at cn
          go_wp2_with fail
          refine cn.mono ?_
          rintro x w3 ⟨rfl, ⟨k', hk', hy, hR3⟩, hB4⟩
          have hyl := drop_len hk' hy
          have hown3 := (hown2.kept hB4.grown hpo).alloc (.cells #[(Value.int .i64) n] 3)
          have hnew : ∀ j u, [(Value.int .i64) n][j]? = some u → (w3.alloc (.cells #[(Value.int .i64) n] 3)).cell? ((⟨w3.heap.size, 0, none⟩ : Addr).add j) = some u := by
            intro j u hj
            match j, hj with
            | 0, hj => simp at hj; subst hj; exact Lib.cell_of_heap (heap_alloc_new w3 _) 0
          have hs3 := hB4.size
          clear cn hown2
          go_wp2_with (at_builtin; go_must (refine wpList_append_own _ rfl (.tmp 17) (.tmp 20) 22 rfl w.heap.size 3 i0 _ 1 8 Tryd.underlying22 hi hz0 hz1 hz2 rfl (by decide) _ _ _ rfl hown3 ⟨w3.heap.size, 0, none⟩ 1 1 [(Value.int .i64) n] rfl rfl hnew (by simp [Value.oneCell']) (by unfold maxLen; omega) (by omega) (by simp; omega) ?_); intro v' w4 hown' hgrow _)
          have hr : u3.ownBlock ≠ some p := fun e => by have := hol p e; omega
          have hR4 := (hR3.below (below_alloc1 w3 (.cells #[(Value.int .i64) n] 3))).grown hgrow hr
          have hB5 := ((hB3.trans hB4).trans (But.of (below_alloc1 w3 (.cells #[(Value.int .i64) n] 3)))).then hgrow hol
          have cbad := rfBad_any p s k' false w4 hR4
          have hp4 := placeOf_at hR4
          have HE2 : Hid (Z = (elemsF intP (f - 1) (s.data.toList.drop k')).map fun z => ((acc ++ [n]) ++ z.1, z.2)) := Lib.hid (by rw [← hy]; exact HE.out)
          clear hgrow hown3 hnew HE hy
          go_wp2_with fail
          refine cbad.mono ?_
          rintro x _ ⟨rfl, rfl⟩
          clear cbad
          go_wp2_with fail
          go_roundw
          case rel => exact ⟨acc ++ [n], k', f - 1, by simpa using hown', hR4, hB5, hk', by omega, by simp; omega, HE2⟩
          case measure => rw [hp4, hpl]; omega
      · obtain ⟨q, hd⟩ : ∃ q, s.data.toList.drop k = 93 :: q := by
          unfold hit at hh
          rcases hd : s.data.toList.drop k with _ | ⟨a, q⟩
          · rw [hd] at hh; simp at hh
          · rw [hd] at hh
            exact ⟨q, by rw [show a = 93 by simpa using hh]⟩
        have HV : Hid (Z = some (acc, q)) := Lib.hid (by
          rw [HZ.out, hd]
          cases f with
          | zero => omega
          | succ f => simp [elemsF])
        have hq : q = s.data.toList.drop (k + 1) := by rw [← List.drop_drop, hd]; rfl
        have HQ := Lib.hid hq
        rw [hh] at cb
        clear HZ hd hq hR
        go_wp2_with fail
        refine cb.mono ?_
        rintro x w2 ⟨rfl, hR2, hk2, hB2⟩
        rw [if_pos rfl] at hR2
        have hown2 := hown.kept hB2.grown hpo
        have hk3 := hk2 rfl
        clear cb hown
        go_wp2_with fail
        go_ret
        rw [HV.out]
        exact ⟨_, rfl, hown2, ⟨k + 1, hk3, HQ.out, hR2⟩, hB.trans hB2⟩
/-- How the loop stands. -/
def ReT (p : Nat) (s : ByteArray) (w : World) (Z : Option (List ByteArray × List UInt8)) (v : Value) (wr : World) : Prop := ∃ (acc : List ByteArray) (k f : Nat), wr.ownsRow w.heap.size 9 1 v acc.length (acc.map Value.string) ∧ RfAt wr p s k false ∧ But p w wr ∧ k ≤ s.size ∧ s.size - k < f ∧ acc.length ≤ k ∧ Hid (Z = (elemsF txtP f (s.data.toList.drop k)).map fun z => (acc ++ z.1, z.2))
set_option maxHeartbeats 2000000 in
set_option maxRecDepth 100000 in
theorem rfTexts_any (p : Nat) (s : ByteArray) (hs : s.size ≤ 100000000) (k : Nat) (hk : k ≤ s.size) (b : Bool) (w : World) (h : RfAt w p s k b) :
    Calls Tryd.prog 31 #[.pointer (some ⟨p, 0, none⟩)] w (RefReadsL p s 9 Value.string (if b = true then none else listP txtP (s.data.toList.drop k)) w) := by
  have HSZ := Lib.hid (ba_size s)
  have cb := rfByte_any p s hs k hk b 91 w h
  have hl := h.lt
  cases hh : hit s k b 91
  · have hz : (if b = true then none else listP txtP (s.data.toList.drop k)) = none := by
      cases b
      · rw [if_neg (by decide)]
        unfold hit at hh
        rcases hd : s.data.toList.drop k with _ | ⟨a, r⟩
        · rfl
        · rw [hd] at hh
          simp only [listP]
          rw [if_neg (fun e => by subst e; simp at hh)]
      · rfl
    rw [hh] at cb
    rw [hz]
    unfold RefReadsL
    dsimp only
    clear hz h HSZ
    go_enter Tryd.func31, Tryd.ntmps31
    go_wp2_with fail
    refine cb.mono ?_
    rintro x w1 ⟨rfl, hR, -, hB⟩
    rw [if_neg (by decide)] at hR
    have cf := rfFail_any p s k b w1 hR
    go_wp2_with fail
    refine cf.mono ?_
    rintro x w2 ⟨rfl, hR2, hB2⟩
    go_wp2_with fail
    go_ret
    exact ⟨rfl, ⟨k, hk, hR2⟩, hB.trans hB2⟩
  · obtain rfl : b = false := by
      cases b
      · rfl
      · simp [hit] at hh
    obtain ⟨r, hd⟩ : ∃ r, s.data.toList.drop k = 91 :: r := by
      unfold hit at hh
      rcases hd : s.data.toList.drop k with _ | ⟨a, r⟩
      · rw [hd] at hh; simp at hh
      · rw [hd] at hh
        exact ⟨r, by rw [show a = 91 by simpa using hh]⟩
    have hr : r = s.data.toList.drop (k + 1) := by rw [← List.drop_drop, hd]; rfl
    have hk1 : k + 1 ≤ s.size := by have := congrArg List.length hd; rw [List.length_drop, List.length_cons] at this; have := HSZ.out; omega
    rw [hh] at cb
    rw [if_neg (by decide), hd]
    suffices key : ∀ Z, Z = elemsF txtP (r.length + 1) r → Calls Tryd.prog 31 #[.pointer (some ⟨p, 0, none⟩)] w (RefReadsL p s 9 Value.string Z w) from key _ (by simp [listP])
    intro Z hZ
    have HZ : Hid (Z = (elemsF txtP (r.length + 1) (s.data.toList.drop (k + 1))).map fun z => (([] : List ByteArray) ++ z.1, z.2)) := Lib.hid (by rw [hZ, ← hr]; cases elemsF txtP (r.length + 1) r <;> simp)
    have hrl := drop_len hk1 hr
    clear hZ h hd hr
    go_enter Tryd.func31, Tryd.ntmps31
    go_wp2_with fail
    refine cb.mono ?_
    rintro x w1 ⟨rfl, hR, -, hB⟩
    rw [if_pos rfl] at hR
    clear cb
    go_wp2_with fail
    go_loopw [3] (fun v wr => ReT p s w Z v wr) (fun _ wr => s.size - placeOf wr p)
    case atStart => exact ⟨[], k + 1, r.length + 1, World.ownsRow_nil _ _ _ _, hR, hB, hk1, by omega, by simp, HZ⟩
    case round =>
      clear hR hB HZ
      obtain ⟨acc, k, f, hown, hR, hB, hk, hf, hacc, HZ⟩ := hrel
      have hpl := placeOf_at hR
      have cb := rfByte_any p s hs k hk false 93 wr hR
      have hpo : u3.ownBlock = none ∨ u3.ownBlock ≠ some p := by
        cases hv : u3.ownBlock with
        | none => exact .inl rfl
        | some g => exact .inr (fun e => by injection e with e; have := (hown.lt g hv).1; omega)
      cases hh : hit s k false 93
      · have HE : Hid (Z = match txtP (s.data.toList.drop k) with | none => none | some (x, y) => (elemsF txtP (f - 1) y).map fun z => ((acc ++ [x]) ++ z.1, z.2)) := Lib.hid (by
          rw [HZ.out]
          unfold hit at hh
          cases f with
          | zero => omega
          | succ f =>
            rcases hd : s.data.toList.drop k with _ | ⟨a, q⟩
            · rfl
            · rw [hd] at hh
              have ha : a ≠ 93 := fun e => by subst e; simp at hh
              simp only [elemsF, if_neg ha, Nat.add_sub_cancel]
              rcases txtP (a :: q) with _ | ⟨x, y⟩
              · rfl
              · simp only
                rcases elemsF txtP f y with _ | ⟨m, y2⟩
                · rfl
                · simp)
        rw [hh] at cb
        clear HZ hR
        go_wp2_with fail
        refine cb.mono ?_
        rintro x w2 ⟨rfl, hR2, -, hB2⟩
        rw [if_neg (by decide)] at hR2
        have hown2 := hown.kept hB2.grown hpo
        have hB3 := hB.trans hB2
        have cn := rfText_any p s hs k hk false w2 hR2
        rw [if_neg (by decide)] at cn
        change Calls _ _ _ _ (RefReads p s _ _ (txtP (s.data.toList.drop k)) w2) at cn
        clear cb hown hB
        have hol := fun k hk => (hown2.lt k hk).1
        have hs2 := hB3.size
        obtain ⟨i0, hi, hz0, hz1, hz2⟩ := info_parts str_info
        rcases hx : txtP (s.data.toList.drop k) with _ | ⟨n, y⟩
        · rw [hx] at cn HE
          unfold RefReads at cn
          dsimp only at cn
          go_wp2_with fail
          refine cn.mono ?_
          rintro x w3 ⟨rfl, ⟨k', hk', hR3⟩, hB4⟩
          have hown3 := (hown2.kept hB4.grown hpo).alloc (.cells #[Value.string (⟨#[]⟩ : ByteArray)] 9)
          have hnew : ∀ j u, [Value.string (⟨#[]⟩ : ByteArray)][j]? = some u → (w3.alloc (.cells #[Value.string (⟨#[]⟩ : ByteArray)] 9)).cell? ((⟨w3.heap.size, 0, none⟩ : Addr).add j) = some u := by
            intro j u hj
            match j, hj with
            | 0, hj => simp at hj; subst hj; exact Lib.cell_of_heap (heap_alloc_new w3 _) 0
          have hs3 := hB4.size
          clear cn hown2
          go_wp2_with (at_builtin; go_must (refine wpList_append_own _ rfl (.tmp 17) (.tmp 20) 23 rfl w.heap.size 9 i0 _ 1 16 Tryd.underlying23 hi hz0 hz1 hz2 rfl (by decide) _ _ _ rfl hown3 ⟨w3.heap.size, 0, none⟩ 1 1 [Value.string (⟨#[]⟩ : ByteArray)] rfl rfl hnew (by simp [Value.oneCell']) (by unfold maxLen; omega) (by omega) (by simp; omega) ?_); intro v' w4 hown' hgrow _)
          have hr : u3.ownBlock ≠ some p := fun e => by have := hol p e; omega
          have hR4 := (hR3.below (below_alloc1 w3 (.cells #[Value.string (⟨#[]⟩ : ByteArray)] 9))).grown hgrow hr
          have hB5 := ((hB3.trans hB4).trans (But.of (below_alloc1 w3 (.cells #[Value.string (⟨#[]⟩ : ByteArray)] 9)))).then hgrow hol
          have cbad := rfBad_any p s k' true w4 hR4
          clear hown' hgrow hown3 hnew
          go_wp2_with fail
          refine cbad.mono ?_
          rintro x _ ⟨rfl, rfl⟩
          go_wp2_with fail
          go_ret
          rw [show Z = none from HE.out]
          exact ⟨rfl, ⟨k', hk', hR4⟩, hB5⟩
        · rw [hx] at cn HE
          have hsh := txtP_short hx
          rw [List.length_drop, ← HSZ.out] at hsh
          unfold RefReads at cn
          dsimp only at cn
          go_wp2_with fail
          refine cn.mono ?_
          rintro x w3 ⟨rfl, ⟨k', hk', hy, hR3⟩, hB4⟩
          have hyl := drop_len hk' hy
          have hown3 := (hown2.kept hB4.grown hpo).alloc (.cells #[Value.string n] 9)
          have hnew : ∀ j u, [Value.string n][j]? = some u → (w3.alloc (.cells #[Value.string n] 9)).cell? ((⟨w3.heap.size, 0, none⟩ : Addr).add j) = some u := by
            intro j u hj
            match j, hj with
            | 0, hj => simp at hj; subst hj; exact Lib.cell_of_heap (heap_alloc_new w3 _) 0
          have hs3 := hB4.size
          clear cn hown2
          go_wp2_with (at_builtin; go_must (refine wpList_append_own _ rfl (.tmp 17) (.tmp 20) 23 rfl w.heap.size 9 i0 _ 1 16 Tryd.underlying23 hi hz0 hz1 hz2 rfl (by decide) _ _ _ rfl hown3 ⟨w3.heap.size, 0, none⟩ 1 1 [Value.string n] rfl rfl hnew (by simp [Value.oneCell']) (by unfold maxLen; omega) (by omega) (by simp; omega) ?_); intro v' w4 hown' hgrow _)
          have hr : u3.ownBlock ≠ some p := fun e => by have := hol p e; omega
          have hR4 := (hR3.below (below_alloc1 w3 (.cells #[Value.string n] 9))).grown hgrow hr
          have hB5 := ((hB3.trans hB4).trans (But.of (below_alloc1 w3 (.cells #[Value.string n] 9)))).then hgrow hol
          have cbad := rfBad_any p s k' false w4 hR4
          have hp4 := placeOf_at hR4
          have HE2 : Hid (Z = (elemsF txtP (f - 1) (s.data.toList.drop k')).map fun z => ((acc ++ [n]) ++ z.1, z.2)) := Lib.hid (by rw [← hy]; exact HE.out)
          clear hgrow hown3 hnew HE hy
          go_wp2_with fail
          refine cbad.mono ?_
          rintro x _ ⟨rfl, rfl⟩
          clear cbad
          go_wp2_with fail
          go_roundw
          case rel => exact ⟨acc ++ [n], k', f - 1, by simpa using hown', hR4, hB5, hk', by omega, by simp; omega, HE2⟩
          case measure => rw [hp4, hpl]; omega
      · obtain ⟨q, hd⟩ : ∃ q, s.data.toList.drop k = 93 :: q := by
          unfold hit at hh
          rcases hd : s.data.toList.drop k with _ | ⟨a, q⟩
          · rw [hd] at hh; simp at hh
          · rw [hd] at hh
            exact ⟨q, by rw [show a = 93 by simpa using hh]⟩
        have HV : Hid (Z = some (acc, q)) := Lib.hid (by
          rw [HZ.out, hd]
          cases f with
          | zero => omega
          | succ f => simp [elemsF])
        have hq : q = s.data.toList.drop (k + 1) := by rw [← List.drop_drop, hd]; rfl
        have HQ := Lib.hid hq
        rw [hh] at cb
        clear HZ hd hq hR
        go_wp2_with fail
        refine cb.mono ?_
        rintro x w2 ⟨rfl, hR2, hk2, hB2⟩
        rw [if_pos rfl] at hR2
        have hown2 := hown.kept hB2.grown hpo
        have hk3 := hk2 rfl
        clear cb hown
        go_wp2_with fail
        go_ret
        rw [HV.out]
        exact ⟨_, rfl, hown2, ⟨k + 1, hk3, HQ.out, hR2⟩, hB.trans hB2⟩
end Go.Proofs.YtfnlihadibnnoaaDoor
