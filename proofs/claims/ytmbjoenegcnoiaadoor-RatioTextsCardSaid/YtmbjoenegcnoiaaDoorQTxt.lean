/- The law RatioTexts, walked. -/
import Derived.Test.YtmbjoenegcnoiaaDoorQPrs
import Derived.Test.YtmbjoenegcnoiaaDoorQTxR
namespace Go.Proofs.YtmbjoenegcnoiaaDoor
open Go Go.RowKit Go.Sort Go.Lib

def StrsAt (w : World) (b : Nat) : Prop := ∀ j, j < 5 → ∃ u : ByteArray, w.cell? ⟨b, j, none⟩ = some (.string u) ∧ u.size ≤ 1000000
theorem StrsAt.below {w w' : World} {b : Nat} (h : StrsAt w b) (hb : RowKit.Below w.heap.size w w') : StrsAt w' b := fun j hj => by
  obtain ⟨u, h1, h2⟩ := h j hj
  exact ⟨u, mv0 hb h1, h2⟩
theorem strs_new (w : World) (a b c d e : ByteArray) (ha : a.size ≤ 1000000) (hb : b.size ≤ 1000000) (hc : c.size ≤ 1000000) (hd : d.size ≤ 1000000) (he : e.size ≤ 1000000) (t : TypeId) : StrsAt (w.alloc (.cells #[.string a, .string b, .string c, .string d, .string e] t)) w.heap.size := fun j hj => by
  have key : ∀ j, (w.alloc (.cells #[.string a, .string b, .string c, .string d, .string e] t)).cell? ⟨w.heap.size, j, none⟩ = (#[.string a, .string b, .string c, .string d, .string e] : Array Value)[j]? := fun j => Lib.cell_of_heap (heap_alloc_new w _) j
  match j, hj with
  | 0, _ => exact ⟨a, key 0, ha⟩
  | 1, _ => exact ⟨b, key 1, hb⟩
  | 2, _ => exact ⟨c, key 2, hc⟩
  | 3, _ => exact ⟨d, key 3, hd⟩
  | 4, _ => exact ⟨e, key 4, he⟩
theorem strs_five (w : World) (t T : ByteArray) (h1 : t.size ≤ 30) (h2 : T.size ≤ 43) (ty : TypeId) : StrsAt (w.alloc (.cells #[.string t, .string (T ++ t), .string (t ++ T), .string (⟨#[48]⟩ ++ T), .string (⟨#[45]⟩ ++ T)] ty)) w.heap.size := by
  have e1 : (⟨#[48]⟩ : ByteArray).size = 1 := rfl
  have e2 : (⟨#[45]⟩ : ByteArray).size = 1 := rfl
  exact strs_new w _ _ _ _ _ (by omega) (by rw [ByteArray.size_append]; omega) (by rw [ByteArray.size_append]; omega) (by rw [ByteArray.size_append]; omega) (by rw [ByteArray.size_append]; omega) ty
theorem sz_list (T : List UInt8) : (⟨T.toArray⟩ : ByteArray).size = T.length := by simp [ByteArray.size]
theorem text_cases (X : Rt) : (textL X ≠ [] ∧ parseV (textL X) = (X, true)) ∨ (textL X = [] ∧ parseV (textL X) = (⟨0, 0⟩, false)) := by
  have h2 : parseV [] = (⟨0, 0⟩, false) := by simp [parseV, Lib.cut, index, atoiAll]
  by_cases h : Right X
  · refine .inl ⟨fun e => ?_, parse_text h⟩
    have := parse_text h
    rw [e, h2] at this
    cases this
  · have e : textL X = [] := if_neg h
    exact .inr ⟨e, by rw [e]; exact h2⟩
set_option maxHeartbeats 8000000 in
set_option maxRecDepth 100000 in
theorem texts_any (x0 x1 x2 x3 x4 x5 x6 x7 : Int) (i0 : I64 x0) (i1 : I64 x1) (i2 : I64 x2) (i3 : I64 x3) (i4 : I64 x4) (i5 : I64 x5) (i6 : I64 x6) (i7 : I64 x7) (s : ByteArray) (hs : s.size ≤ 9223372036854775807) (w : World) (ht : Sane w) (he : ErrVars w) :
    Calls Tryd.prog 4 #[.agg #[.int .i64 x0, .int .i64 x1, .int .i64 x2, .int .i64 x3, .int .i64 x4, .int .i64 x5, .int .i64 x6, .int .i64 x7], .string s] w fun x w' => x = .returned (.bool true) ∧ RowKit.Below w.heap.size w w' := by
  have hbw := below_alloc1 w (.cells #[.int .i64 x0, .int .i64 x1, .int .i64 x2, .int .i64 x3, .int .i64 x4, .int .i64 x5, .int .i64 x6, .int .i64 x7] 26)
  have h0 : (w.alloc (.cells #[.int .i64 x0, .int .i64 x1, .int .i64 x2, .int .i64 x3, .int .i64 x4, .int .i64 x5, .int .i64 x6, .int .i64 x7] 26)).cell? ⟨w.heap.size, 0, none⟩ = some (.int .i64 x0) := Lib.cell_of_heap (heap_alloc_new w _) 0
  have h1 : (w.alloc (.cells #[.int .i64 x0, .int .i64 x1, .int .i64 x2, .int .i64 x3, .int .i64 x4, .int .i64 x5, .int .i64 x6, .int .i64 x7] 26)).cell? ⟨w.heap.size, 1, none⟩ = some (.int .i64 x1) := Lib.cell_of_heap (heap_alloc_new w _) 1
  have h2 : (w.alloc (.cells #[.int .i64 x0, .int .i64 x1, .int .i64 x2, .int .i64 x3, .int .i64 x4, .int .i64 x5, .int .i64 x6, .int .i64 x7] 26)).cell? ⟨w.heap.size, 2, none⟩ = some (.int .i64 x2) := Lib.cell_of_heap (heap_alloc_new w _) 2
  have h3 : (w.alloc (.cells #[.int .i64 x0, .int .i64 x1, .int .i64 x2, .int .i64 x3, .int .i64 x4, .int .i64 x5, .int .i64 x6, .int .i64 x7] 26)).cell? ⟨w.heap.size, 3, none⟩ = some (.int .i64 x3) := Lib.cell_of_heap (heap_alloc_new w _) 3
  have h4 : (w.alloc (.cells #[.int .i64 x0, .int .i64 x1, .int .i64 x2, .int .i64 x3, .int .i64 x4, .int .i64 x5, .int .i64 x6, .int .i64 x7] 26)).cell? ⟨w.heap.size, 4, none⟩ = some (.int .i64 x4) := Lib.cell_of_heap (heap_alloc_new w _) 4
  have h5 : (w.alloc (.cells #[.int .i64 x0, .int .i64 x1, .int .i64 x2, .int .i64 x3, .int .i64 x4, .int .i64 x5, .int .i64 x6, .int .i64 x7] 26)).cell? ⟨w.heap.size, 5, none⟩ = some (.int .i64 x5) := Lib.cell_of_heap (heap_alloc_new w _) 5
  have h6 : (w.alloc (.cells #[.int .i64 x0, .int .i64 x1, .int .i64 x2, .int .i64 x3, .int .i64 x4, .int .i64 x5, .int .i64 x6, .int .i64 x7] 26)).cell? ⟨w.heap.size, 6, none⟩ = some (.int .i64 x6) := Lib.cell_of_heap (heap_alloc_new w _) 6
  have h7 : (w.alloc (.cells #[.int .i64 x0, .int .i64 x1, .int .i64 x2, .int .i64 x3, .int .i64 x4, .int .i64 x5, .int .i64 x6, .int .i64 x7] 26)).cell? ⟨w.heap.size, 7, none⟩ = some (.int .i64 x7) := Lib.cell_of_heap (heap_alloc_new w _) 7
  have m0 := fun w => made_any x0 x1 i0 i1 w
  have m1 := fun w => made_any x2 x3 i2 i3 w
  have rA := (made_right x0 x1).ok
  have rB := (made_right x2 x3).ok
  generalize madeV x0 x1 = A at m0 rA
  generalize madeV x2 x3 = B at m1 rB
  unfold Rt.val at m0 m1
  have hcs : (s.extract 0 (min (s.size : Int) 30).toNat).size ≤ 30 := by rw [ByteArray.size_extract]; omega
  go_enter Tryd.func4, Tryd.ntmps4
  go_wp2_with fail
  refine (sanity_any _ (ht.below hbw)).mono ?_
  rintro x w1 ⟨rfl, hb⟩
  replace h0 := mv0 hb h0
  replace h1 := mv0 hb h1
  replace h2 := mv0 hb h2
  replace h3 := mv0 hb h3
  replace h4 := mv0 hb h4
  replace h5 := mv0 hb h5
  replace h6 := mv0 hb h6
  replace h7 := mv0 hb h7
  replace hbw := below_next hbw hb
  clear hb
  go_wp2_with fail
  have pa := fun w => pairs_any x0 x1 x2 x3 x4 x5 x6 x7 A B w m0 m1
  have hOk : ∀ k, k < 12 → (([A, B, B, A, A, A, ⟨x4, x5⟩, B, A, ⟨x6, x7⟩, ⟨x4, x5⟩, ⟨x6, x7⟩] : List Rt).getD k ⟨0, 0⟩).Ok := fun k hk => by
    match k, hk with
    | 0, _ => exact rA
    | 1, _ => exact rB
    | 2, _ => exact rB
    | 3, _ => exact rA
    | 4, _ => exact rA
    | 5, _ => exact rA
    | 6, _ => exact ⟨i4, i5⟩
    | 7, _ => exact rB
    | 8, _ => exact rA
    | 9, _ => exact ⟨i6, i7⟩
    | 10, _ => exact ⟨i4, i5⟩
    | 11, _ => exact ⟨i6, i7⟩
  have hl : ([A, B, B, A, A, A, ⟨x4, x5⟩, B, A, ⟨x6, x7⟩, ⟨x4, x5⟩, ⟨x6, x7⟩] : List Rt).length = 12 := rfl
  generalize ([A, B, B, A, A, A, ⟨x4, x5⟩, B, A, ⟨x6, x7⟩, ⟨x4, x5⟩, ⟨x6, x7⟩] : List Rt) = L at pa hOk hl
  refine (pa _).mono ?_
  rintro x V ⟨G, rfl, hR, hb⟩
  replace hbw := below_next hbw hb
  have HOk := Lib.hid hOk
  have HR := Lib.hid hR
  have HL := Lib.hid hl
  clear hOk hR hl pa m0 m1 rA rB h0 h1 h2 h3 h4 h5 h6 h7 hb i0 i1 i2 i3 i4 i5 i6 i7
  generalize s.extract 0 (min (s.size : Int) 30).toNat = t at hcs
  have htV := ht.below hbw
  have heV := he.below hbw
  clear ht he hs
  go_wp2_with fail
  go_loopw [26] (fun i wr => ∃ k : Nat, k ≤ 6 ∧ i = .int .i64 k ∧ RowKit.Below V.heap.size V wr) (fun i _ => 6 - (RowKit.intOf i).toNat)
  case atStart => exact ⟨0, by omega, rfl, Below.refl _ _⟩
  case round =>
    obtain ⟨k, hk, rfl, hbr⟩ := hrel
    by_cases hlt : k < 6
    · obtain ⟨j0, j1⟩ := HR.out.below hbr (2 * k) (by rw [HL.out]; omega)
      obtain ⟨j2, j3⟩ := HR.out.below hbr (2 * k + 1) (by rw [HL.out]; omega)
      have okX := HOk.out (2 * k) (by omega)
      rw [show 2 * k * 2 = k * 4 by omega] at j0 j1
      rw [show (2 * k + 1) * 2 = k * 4 + 2 by omega] at j2 j3
      generalize L.getD (2 * k) ⟨0, 0⟩ = X at j0 j1 okX
      generalize L.getD (2 * k + 1) ⟨0, 0⟩ = Y at j2 j3
      have htr := htV.below hbr
      have her := heV.below hbr
      have a1 := fun w ht => text_any X okX w ht
      have a2 := fun w => refText_any X okX w
      have tc := text_cases X
      have tl := textL_len X
      generalize textL X = T at a1 a2 tc tl
      have hTz : (⟨T.toArray⟩ : ByteArray).size ≤ 43 := by simpa [ByteArray.size] using tl
      have a3 := fun w ht he => (parse_any ⟨T.toArray⟩ (by omega) w ht he)
      obtain ⟨Xn, Xd⟩ := X
      obtain ⟨Yn, Yd⟩ := Y
      dsimp only at *
      clear okX
      have hdk : decide ((k : Int) < 6) = true := by simp; omega
      unfold Rt.val at *
      dsimp only at a1 a2
      go_wp2_with fail
      clear j0 j1 j2 j3
      have hbp := below_next hbr (below_alloc1 wr (.cells #[.int .i64 Xn, .int .i64 Xd, .int .i64 Yn, .int .i64 Yd] 39))
      refine (a1 _ (htV.below hbp).1).mono ?_
      rintro x w2 ⟨rfl, hb⟩
      have fP0 : w2.cell? ⟨wr.heap.size, 0, none⟩ = some (.int .i64 Xn) := ((bcell hb).1 _ _ (by simp <;> omega)).trans (by simp [go_sem])
      have fP1 : w2.cell? ⟨wr.heap.size, 1, none⟩ = some (.int .i64 Xd) := ((bcell hb).1 _ _ (by simp <;> omega)).trans (by simp [go_sem])
      replace hbp := below_next hbp hb
      clear hb
      go_wp2_with fail
      refine (a3 _ (htV.below hbp) (heV.below hbp)).mono ?_
      rintro x w3 ⟨hx, hb⟩
      have zP : wr.heap.size < w3.heap.size := World.block_lt_of_cell? w3 _ (mv0 hb fP0)
      replace fP0 := mv0 hb fP0
      replace fP1 := mv0 hb fP1
      replace hbp := below_next hbp hb
      clear hb
      have hn1 : ¬ 9223372036854775807 < T.length + t.size := by omega
      have hn2 : ¬ 9223372036854775807 < t.size + T.length := by omega
      have hn3 : ¬ 9223372036854775807 < 1 + T.length := by omega
      clear a1 a3 htr her hdk hTz
      rcases tc with ⟨hT, hp⟩ | ⟨hT, hp⟩
      · have hT2 : T.isEmpty = false := by simpa using hT
        rw [hp] at hx
        subst hx
        clear hp
        go_wp2_with fail
        refine (a2 _).mono ?_
        rintro x w4 ⟨rfl, hb⟩
        replace fP0 := mv1 hb fP0
        replace fP1 := mv1 hb fP1
        have fA0 : w4.cell? ⟨w3.heap.size, 0, none⟩ = some (.int .i64 Xn) := ((bcell hb).1 _ _ (by simp <;> omega)).trans (by simp [go_sem])
        have fA1 : w4.cell? ⟨w3.heap.size, 1, none⟩ = some (.int .i64 Xd) := ((bcell hb).1 _ _ (by simp <;> omega)).trans (by simp [go_sem])
        replace hbp := mb1 hbp hb
        clear hb a2
        go_wp2_with fail
        have hS := strs_five w4 t ⟨T.toArray⟩ hcs (by rw [sz_list]; exact tl) 9
        have hbZ := below_next hbp (below_alloc1 w4 (.cells #[.string t, .string (⟨T.toArray⟩ ++ t), .string (t ++ ⟨T.toArray⟩), .string (⟨#[48]⟩ ++ ⟨T.toArray⟩), .string (⟨#[45]⟩ ++ ⟨T.toArray⟩)] 9))
        have htZ := htV.below hbZ
        have heZ := heV.below hbZ
        generalize w4.alloc (.cells #[.string t, .string (⟨T.toArray⟩ ++ t), .string (t ++ ⟨T.toArray⟩), .string (⟨#[48]⟩ ++ ⟨T.toArray⟩), .string (⟨#[45]⟩ ++ ⟨T.toArray⟩)] 9) = Z at *
        generalize w4.heap.size = g at *
        have HS := Lib.hid hS
        clear hS hbp
        go_loopw [71] (fun i wq => ∃ j : Nat, j ≤ 5 ∧ i = .int .i64 j ∧ RowKit.Below Z.heap.size Z wq) (fun i _ => 5 - (RowKit.intOf i).toNat)
        case atStart => exact ⟨0, by omega, rfl, Below.refl _ _⟩
        case round =>
          obtain ⟨j, hj, rfl, hbq⟩ := hrel
          by_cases hlj : j < 5
          · obtain ⟨u, hu, huz⟩ := HS.out.below hbq j hlj
            have p1 := fun w ht he => parse_any u huz w ht he
            have p2 := fun w => refParse_any u huz w
            simp only [← parse_same] at p2
            generalize parseV u.data.toList = z at p1 p2
            obtain ⟨⟨zn, zd⟩, zb⟩ := z
            unfold Rt.val at p1 p2
            dsimp only at p1 p2
            go_wp2_with fail
            refine (p1 _ (htZ.below hbq) (heZ.below hbq)).mono ?_
            rintro x y1 ⟨rfl, hb⟩
            replace hbq := below_next hbq hb
            clear hb hu p1
            go_wp2_with fail
            refine (p2 _).mono ?_
            rintro x y2 ⟨rfl, hb⟩
            have fB0 : y2.cell? ⟨y1.heap.size, 0, none⟩ = some (.int .i64 zn) := ((bcell hb).1 _ _ (by simp <;> omega)).trans (by simp [go_sem])
            have fB1 : y2.cell? ⟨y1.heap.size, 1, none⟩ = some (.int .i64 zd) := ((bcell hb).1 _ _ (by simp <;> omega)).trans (by simp [go_sem])
            have zB : y1.heap.size < y2.heap.size := World.block_lt_of_cell? y2 _ fB0
            replace hbq := mb1 hbq hb
            replace hbq := below_next hbq (below_alloc1 y2 (.cells #[.int .i64 zn, .int .i64 zd] 24))
            clear hb p2
            go_wp2_with fail
            go_roundw
            case rel => first | exact ⟨j + 1, by omega, by go_num, hbq⟩ | ((repeat apply Exists.intro); exact ⟨⟨j + 1, by omega, by go_num, hbq⟩, rfl⟩)
            case measure => simp [RowKit.intOf]; omega
          · obtain rfl : j = 5 := by omega
            have hb5 := hbZ.trans (hbq.mono hbZ.size)
            clear HS hbq hbZ
            go_wp2_with fail
            go_roundw
            case rel => first | exact ⟨k + 1, by omega, by go_num, hb5⟩ | ((repeat apply Exists.intro); exact ⟨⟨k + 1, by omega, by go_num, hb5⟩, rfl⟩)
            case measure => simp [RowKit.intOf]; omega
      · subst hT
        rw [hp] at hx
        subst hx
        clear hp
        go_wp2_with fail
        refine (a2 _).mono ?_
        rintro x w4 ⟨rfl, hb⟩
        replace hbp := mb1 hbp hb
        clear hb a2 fP0 fP1
        go_wp2_with fail
        have hS := strs_five w4 t ⟨#[]⟩ hcs (by decide) 9
        have hbZ := below_next hbp (below_alloc1 w4 (.cells #[.string t, .string (⟨#[]⟩ ++ t), .string (t ++ ⟨#[]⟩), .string (⟨#[48]⟩ ++ ⟨#[]⟩), .string (⟨#[45]⟩ ++ ⟨#[]⟩)] 9))
        have htZ := htV.below hbZ
        have heZ := heV.below hbZ
        generalize w4.alloc (.cells #[.string t, .string (⟨#[]⟩ ++ t), .string (t ++ ⟨#[]⟩), .string (⟨#[48]⟩ ++ ⟨#[]⟩), .string (⟨#[45]⟩ ++ ⟨#[]⟩)] 9) = Z at *
        generalize w4.heap.size = g at *
        have HS := Lib.hid hS
        clear hS hbp
        go_loopw [71] (fun i wq => ∃ j : Nat, j ≤ 5 ∧ i = .int .i64 j ∧ RowKit.Below Z.heap.size Z wq) (fun i _ => 5 - (RowKit.intOf i).toNat)
        case atStart => exact ⟨0, by omega, rfl, Below.refl _ _⟩
        case round =>
          obtain ⟨j, hj, rfl, hbq⟩ := hrel
          by_cases hlj : j < 5
          · obtain ⟨u, hu, huz⟩ := HS.out.below hbq j hlj
            have p1 := fun w ht he => parse_any u huz w ht he
            have p2 := fun w => refParse_any u huz w
            simp only [← parse_same] at p2
            generalize parseV u.data.toList = z at p1 p2
            obtain ⟨⟨zn, zd⟩, zb⟩ := z
            unfold Rt.val at p1 p2
            dsimp only at p1 p2
            go_wp2_with fail
            refine (p1 _ (htZ.below hbq) (heZ.below hbq)).mono ?_
            rintro x y1 ⟨rfl, hb⟩
            replace hbq := below_next hbq hb
            clear hb hu p1
            go_wp2_with fail
            refine (p2 _).mono ?_
            rintro x y2 ⟨rfl, hb⟩
            have fB0 : y2.cell? ⟨y1.heap.size, 0, none⟩ = some (.int .i64 zn) := ((bcell hb).1 _ _ (by simp <;> omega)).trans (by simp [go_sem])
            have fB1 : y2.cell? ⟨y1.heap.size, 1, none⟩ = some (.int .i64 zd) := ((bcell hb).1 _ _ (by simp <;> omega)).trans (by simp [go_sem])
            have zB : y1.heap.size < y2.heap.size := World.block_lt_of_cell? y2 _ fB0
            replace hbq := mb1 hbq hb
            replace hbq := below_next hbq (below_alloc1 y2 (.cells #[.int .i64 zn, .int .i64 zd] 24))
            clear hb p2
            go_wp2_with fail
            go_roundw
            case rel => first | exact ⟨j + 1, by omega, by go_num, hbq⟩ | ((repeat apply Exists.intro); exact ⟨⟨j + 1, by omega, by go_num, hbq⟩, rfl⟩)
            case measure => simp [RowKit.intOf]; omega
          · obtain rfl : j = 5 := by omega
            have hb5 := hbZ.trans (hbq.mono hbZ.size)
            clear HS hbq hbZ
            go_wp2_with fail
            go_roundw
            case rel => first | exact ⟨k + 1, by omega, by go_num, hb5⟩ | ((repeat apply Exists.intro); exact ⟨⟨k + 1, by omega, by go_num, hb5⟩, rfl⟩)
            case measure => simp [RowKit.intOf]; omega
    · obtain rfl : k = 6 := by omega
      go_wp2_with fail
      go_ret
      exact ⟨rfl, hbw.trans (hbr.mono hbw.size)⟩
end Go.Proofs.YtmbjoenegcnoiaaDoor
