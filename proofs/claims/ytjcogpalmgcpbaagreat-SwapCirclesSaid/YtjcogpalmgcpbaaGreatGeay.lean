/- quadriviumref28.Made, walked. -/
import Derived.Test.YtjcogpalmgcpbaaGreatGeaw
import Derived.Test.YtjcogpalmgcpbaaGreatGeao
import Derived.Test.YtjcogpalmgcpbaaGreatGear
import Derived.Deep.DeepCutAuto
namespace Go.Proofs.YtjcogpalmgcpbaaGreat
open Go Go.Proofs Go.RowKit Go.Maps Go.Sort Go.Lib
attribute [local go_sem] Req.cells
attribute [local go_sem] setCell_size

/-- Seats while they are made. -/
structure SM (W : World) (d : Nat) (A : Option Addr) (n c : Nat) (v : Value) (M : List Seat) (w : World) : Prop where
  keep : W.grownBy w (some d)
  draw : DrawS d A n c w
  rows : w.ownsRow W.heap.size 38 2 v M.length (flatE Seat.cells M)
  dl : d < W.heap.size
  wf : ∀ s ∈ M, s.wf
section
variable {W w w' : World} {B d n c ob : Nat} {A : Option Addr} {v v' : Value} {M : List Seat} {s : Seat} {L : List Off} {o : Off}
theorem SM.next (h : SM W d A n c v M w) (ho : Only d w w') (hd : DrawS d A n c w') : SM W d A n c v M w' where
  keep := grows_trans h.keep ho
  draw := hd
  rows := kept_if h.rows ho fun q hq e => by injection hq with hq; subst hq; have := (own_lo h.rows e).1; have := h.dl; omega
  dl := h.dl
  wf := h.wf
theorem SM.below (h : SM W d A n c v M w) (hb : RowKit.Below w.heap.size w w') : SM W d A n c v M w' where
  keep := grows_trans h.keep (below_grows hb)
  draw := h.draw.below hb
  rows := own_below h.rows hb
  dl := h.dl
  wf := h.wf
theorem SM.put (h : SM W d A n c v M w) (hA : AppT Seat.cells 2 38 w W.heap.size v M [s] v' w') (hs : s.wf) : SM W d A n c v' (M ++ [s]) w' where
  keep := grow_keep h.keep hA.grown fun q hq => (own_lo h.rows hq).1
  draw := h.draw.kept hA.grown fun q hq => by have := (own_lo h.rows hq).1; have := h.dl; omega
  rows := hA.own
  dl := h.dl
  wf x hx := by
    rw [List.mem_append, List.mem_singleton] at hx
    rcases hx with hx | rfl
    · exact h.wf x hx
    · exact hs
theorem SM.ints (h : SM W d A n c v M w) (hi : IntsIn d A n W) : IntsIn d A n w := hi.only (Nat.le_refl _) (Nat.le_of_lt h.dl) h.keep
/-- A slot that is laid. -/
theorem R7.slit (h : R7 W B d A n c v L ob o w) (x : Int) : R7 W B d A n c v L ob { o with sp := some ⟨w.heap.size, 0, none⟩, sc := 1, slots := [x] } ((w.alloc (.cells #[.int .i64 x] 3)).setCell ⟨ob, 3, none⟩ (.slice (some ⟨w.heap.size, 0, none⟩) 1 1)) := by
  have hlt := (Array.getElem?_eq_some_iff.1 h.box).1
  have m1 := h.below (below_alloc1 w (.cells #[.int .i64 x] 3))
  have hs2 := Only.setCell (w.alloc (.cells #[.int .i64 x] 3)) ob 3 (.slice (some ⟨w.heap.size, 0, none⟩) 1 1) 0
  have hbl := h.bl; have hdl := h.ms.dl; have hol := h.ol
  have hbx := m1.box
  refine ⟨m1.ms.kept hs2 (fun q hq => .inr (by injection hq with hq; omega)) (fun q hq hm => by injection hq with hq; have := h.lo q hm; omega) (m1.ms.draw.kept hs2 fun q hq => by injection hq with hq; omega), h.lo, h.bl, h.ol, ?_, ?_, ?_⟩
  · simp [World.setCell, Array.getElem?_modify, hbx]
  · have hown : (w.alloc (.cells #[.int .i64 x] 3)).ownsRow B 3 1 (.slice (some ⟨w.heap.size, 0, none⟩) 1 1) 1 (flatE encI [x]) := ⟨rfl, .inr ⟨w.heap.size, 1, #[.int .i64 x], rfl, by omega, heap_alloc_new w _, Nat.le_refl _, by decide, rfl, rfl⟩⟩
    exact kept_if hown hs2 fun q hq e => by injection hq with hq; subst hq; exact own_type hown hbx (by decide) e
  · exact kept_if m1.nd hs2 fun q hq e => by injection hq with hq; subst hq; exact own_type m1.nd hbx (by decide) e
end
def MetSt2 (W : World) (d : Nat) (A : Option Addr) (n c j : Nat) (v : Value) (w : World) : Prop := ∃ (M : List Seat) (p : Option Addr) (e : Nat), v = .slice p M.length e ∧ M.length ≤ j ∧ SM W d A n c (.slice p M.length e) M w
theorem seat_small {s : Nat} {c : ByteArray} (h1 : 1 ≤ s) (h5 : s ≤ 4) (hc : c ∈ codesL) : (⟨(s : Int), c⟩ : Seat).wf := by
  refine ⟨?_, by have := codesL_small hc; unfold maxLen; show c.size ≤ _; omega⟩
  have hs : s = 1 ∨ s = 2 ∨ s = 3 ∨ s = 4 := by omega
  rcases hs with rfl | rfl | rfl | rfl <;> rfl
theorem codes_cell {w : World} {cb k : Nat} (h : CodesAt cb w) (hk : k < 6) {c : ByteArray} (hc : codesL[k]? = some c) : w.cell? ⟨cb, k, none⟩ = some (.string c) := by
  unfold CodesAt at h
  rw [Lib.cell_of_heap h]
  have hkk : k = 0 ∨ k = 1 ∨ k = 2 ∨ k = 3 ∨ k = 4 ∨ k = 5 := by omega
  rcases hkk with rfl | rfl | rfl | rfl | rfl | rfl <;> (simp only [codesL] at hc; injection hc with hc; subst hc; rfl)
theorem CodesAt.below {w w' : World} {cb : Nat} (h : CodesAt cb w) (hb : RowKit.Below w.heap.size w w') : CodesAt cb w' := (hb.block cb (lt_of_heap h)).trans h
theorem CodesAt.grown {w w' : World} {cb : Nat} {row : Option Nat} (h : CodesAt cb w) (hg : w.grownBy w' row) (hne : row ≠ some cb) : CodesAt cb w' := (hg.block cb (lt_of_heap h) (fun e => hne e.symm)).trans h
theorem GoodL.few {k : Nat} {w : World} {L : List Off} (h : GoodL k L) (hok : ∀ o ∈ L, OffOk w o) : FewO w L := fun o ho => ⟨hok o ho, by have := (h.1 o ho).sl; omega, by have := (h.1 o ho).nd; omega⟩
/-- What Made leaves. -/
structure Made28 (w' : World) (ov mv lv : Value) (L : List Off) (M : List Seat) (R : List Req) : Prop where
  cat : CatIn w' ov mv L M
  few : FewO w' L
  calm : Calm L
  req : ReqsIn w' lv R
  lr : R.length ≤ 10
  small : ∀ r ∈ R, r.Small
theorem Made28.below {w w' : World} {ov mv lv : Value} {L : List Off} {M : List Seat} {R : List Req} (h : Made28 w ov mv lv L M R) (hb : RowKit.Below w.heap.size w w') : Made28 w' ov mv lv L M R := ⟨h.cat.below hb, h.few.below hb, h.calm, h.req.below hb, h.lr, h.small⟩
theorem small_give {r : Req} {g : ByteArray} (h : r.Small) (hg : g.size ≤ 12) : ({ r with give := g } : Req).Small := by
  obtain ⟨a, b, cc, d, f, g0, k, p, q⟩ := r
  exact small_mk ⟨h.ok.server, h.ok.seq, h.ok.student, h.ok.term, h.ok.priority, h.ok.day⟩ h.code hg
def Made28Post (w : World) (x : Ending) (w' : World) : Prop := ∃ ov mv lv L M R, x = .returned (.tuple #[ov, mv, lv]) ∧ Made28 w' ov mv lv L M R ∧ RowKit.Below w.heap.size w w'
set_option maxHeartbeats 16000000 in
set_option maxRecDepth 100000 in
theorem refMade_any (A0 A1 A2 : Option Addr) (n0 n1 n2 c0 c1 c2 : Nat) (w : World) (h0 : IntsIn w.heap.size A0 n0 w) (h1 : IntsIn w.heap.size A1 n1 w) (h2 : IntssIn w.heap.size A2 n2 w) :
    Calls Tryz.prog 17 #[.slice A0 n0 c0, .slice A1 n1 c1, .slice A2 n2 c2] w (Made28Post w) := by
  have hb0 := below_alloc1 w (.cells #[.slice A0 n0 c0, .int .i64 0] 75)
  have hd0 : DrawS w.heap.size A0 n0 c0 (w.alloc (.cells #[.slice A0 n0 c0, .int .i64 0] 75)) := ⟨0, Nat.zero_le _, heap_alloc_new w _⟩
  have hi0 := h0.below hb0
  have H1 := Lib.hid h1
  have H2 := Lib.hid h2
  have hN2 := h2.1
  clear h0 h1 h2
  go_enter Tryz.func17, Tryz.ntmps17
  go_wp2_with fail
  refine (codes_any _).mono ?_
  rintro _ w1 ⟨rfl, hw1⟩
  have hb1 : RowKit.Below (w.alloc (.cells #[.slice A0 n0 c0, .int .i64 0] 75)).heap.size (w.alloc (.cells #[.slice A0 n0 c0, .int .i64 0] 75)) w1 := by rw [hw1]; exact below_alloc1 _ _
  have hcod : CodesAt (w.alloc (.cells #[.slice A0 n0 c0, .int .i64 0] 75)).heap.size w1 := by unfold CodesAt; rw [hw1]; exact heap_alloc_new _ _
  have hszd : (w.alloc (.cells #[.slice A0 n0 c0, .int .i64 0] 75)).heap.size = w.heap.size + 1 := by simp
  rw [hszd] at hcod
  have hd1 := hd0.below hb1
  have hi1 : IntsIn w.heap.size A0 n0 w1 := hi0.below (hb1.mono (by omega))
  have HB1 := Lib.hid (below_next hb0 hb1)
  have hcl : w.heap.size + 1 < w1.heap.size := lt_of_heap hcod
  have HCOD := Lib.hid hcod
  have HI := Lib.hid hi1
  have hms : MS w1 w.heap.size A0 n0 c0 (.slice none 0 0) [] w1 := ⟨below_grows (Below.refl _ _), hd1, World.ownsRow_nil _ _ _ _, (fun o ho => (by cases ho)), hd1.lt⟩
  clear hb0 hb1 hd0 hd1 hi0 hi1 hw1 hcod hszd
  go_wp2_with fail
  go_loopw [11, 12] (fun v i wr => ∃ k : Nat, k ≤ 4 ∧ i = .int .i64 k ∧ MadeSt w1 w.heap.size A0 n0 c0 k v wr) (fun _ i _ => 4 - (RowKit.intOf i).toNat)
  case atStart => exact ⟨0, by omega, rfl, [], none, 0, rfl, ⟨(fun o ho => (by cases ho)), List.nil_sublist _⟩, hms⟩
  case round =>
    clear hms
    obtain ⟨k, hk, rfl, L, p, e, rfl, hg, hm⟩ := hrel
    have HG := Lib.hid hg
    have HM := Lib.hid hm
    have hLl := hg.len
    clear hg hm
    by_cases hk4 : k < 4
    · have hk4' : decide ((k : Int) < 4) = true := decide_eq_true (by omega)
      obtain ⟨cc, hcc⟩ : ∃ cc, codesL[k]? = some cc := ⟨_, List.getElem?_eq_getElem (by show k < 6; omega)⟩
      have hcell : wr.cell? ⟨w.heap.size + 1, k, none⟩ = some (.string cc) := codes_cell (HCOD.out.grown HM.out.keep (by simp)) (by omega) hcc
      have HCC := Lib.hid hcc
      clear hcc
      go_wp2_with fail
      refine md_r7 w.heap.size (w.heap.size + 1) k n0 c0 A0 cc wr _ HM.out.draw (HM.out.ints HI.out) (by omega) hk4 hcell ?_
      intro u33 u35 u36 u37 u39 u40 u41 ob x y w3 hst3 hob hbx hx0 hx1 hy0 hy1
      have hm3 := HM.out.std hst3
      have hr3 : RoundSt w1 wr.heap.size w.heap.size A0 n0 c0 k (.slice p L.length e) L ob ⟨cc, x, y, none, 0, none, 0, [], []⟩ w3 :=
        ⟨R7.lit hst3.1.size hm3 (fun q hq => (HM.out.mine hq).2) HM.out.keep.size hob hbx, ⟨List.mem_of_getElem? HCC.out, hx0, hx1, hy0, hy1, by show 0 ≤ 4; omega, by show 0 ≤ 2; omega⟩, HCC.out⟩
      have HR3 := Lib.hid hr3
      clear hst3 hbx hm3 hr3 hcell hx0 hx1 hy0 hy1
      have cn4 := next_st w.heap.size A0 n0 c0 2 w3 (by omega) (by omega) HR3.out.r7.ms.draw (HR3.out.r7.ms.ints HI.out)
      go_wp2_with fail
      refine cn4.mono ?_
      rintro _ w4 ⟨g, rfl, hg2, hdw4, hs4⟩
      have HR4 := Lib.hid (HR3.out.next hs4 hdw4)
      clear cn4 hdw4 hs4
      have hgg : g = 0 ∨ g = 1 := by omega
      rcases hgg with rfl | rfl
      · have hb6 := below_alloc1 w4 (.cells #[.string cc, .int .i64 x, .int .i64 y, .slice none 0 0, .slice none 0 0] 72)
        have hc4 := HR4.out.r7.cell
        have hr6 := HR4.out.below hb6
        have hlit := rowIn_lit (enc := Off.cells) (e := 72) w4 [⟨cc, x, y, none, 0, none, 0, [], []⟩] #[.string cc, .int .i64 x, .int .i64 y, .slice none 0 0, .slice none 0 0] w4.heap.size rfl (by simp [flatE, Off.cells]) 1 rfl
        have hown6 := hr6.r7.ms.rows
        have hsz6 : w1.heap.size ≤ (w4.alloc (.cells #[.string cc, .int .i64 x, .int .i64 y, .slice none 0 0, .slice none 0 0] 72)).heap.size := hr6.r7.ms.keep.size
        have HR6 := Lib.hid hr6
        clear hr6 hb6 HR3
        go_wp2_with (at_builtin; refine wpList_append_row offT rfl (.tmp 50) (.tmp 52) rfl w1.heap.size _ _ L [⟨cc, x, y, none, 0, none, 0, [], []⟩] rfl rfl hown6 hlit (by simp; omega) hsz6 ?_; intro v9 w9 hA9; obtain ⟨p9, c9, rfl⟩ := own_form hA9.own)
        have hms := HR6.out.r7.done hA9
        have hgl := HG.out.put HR6.out.good HR6.out.code
        simp only [List.length_append, List.length_singleton] at hms
        clear hA9 hown6 hlit
        go_roundw
        case rel => exact ⟨k + 1, by omega, by go_num, L ++ [⟨cc, x, y, none, 0, none, 0, [], []⟩], p9, c9, by simp, hgl, by simpa using hms⟩
        case measure => simp [RowKit.intOf]; omega
      · have cn5 := next_st w.heap.size A0 n0 c0 3 w4 (by omega) (by omega) HR4.out.r7.ms.draw (HR4.out.r7.ms.ints HI.out)
        go_wp2_with fail
        refine cn5.mono ?_
        rintro _ w5 ⟨g5, rfl, hg5, hdw5, hs5⟩
        have hr5 := HR4.out.next hs5 hdw5
        have hr6 : RoundSt w1 wr.heap.size w.heap.size A0 n0 c0 k (.slice p L.length e) L ob ⟨cc, x, y, some ⟨w5.heap.size, 0, none⟩, 1, none, 0, [1 + (g5 : Int)], []⟩ ((w5.alloc (.cells #[.int .i64 (1 + (g5 : Int))] 3)).setCell ⟨ob, 3, none⟩ (.slice (some ⟨w5.heap.size, 0, none⟩) 1 1)) :=
          ⟨hr5.r7.slit (1 + (g5 : Int)), { hr5.good with sl := by show 1 ≤ 4; omega }, hr5.code⟩
        have hb5 := hr5.below (below_alloc1 w5 (.cells #[.int .i64 (1 + (g5 : Int))] 3))
        have hc5 := hb5.r7.cell
        have hf5 : ∀ j, (w5.alloc (.cells #[.int .i64 (1 + (g5 : Int))] 3)).frozen? ⟨ob, j, none⟩ = false := fun j => Lib.frozen_of_heap hb5.r7.box j
        have hwr5 : IntKind.i64.wrap (1 + (g5 : Int)) = 1 + (g5 : Int) := i64_id (by omega) (by omega)
        clear cn5 hdw5 hs5 hr5 hb5 HR4 HR3
        go_upto_region 10 with fail
        generalize hs5 : w5.heap.size = z5 at hr6 ⊢
        generalize World.setCell _ _ _ = w6 at hr6 ⊢
        have hb7 := below_alloc1 w6 (.cells #[.string cc, .int .i64 x, .int .i64 y, .slice (some ⟨z5, 0, none⟩) 1 1, .slice none 0 0] 72)
        have hc6 := hr6.r7.cell
        have hr7 := hr6.below hb7
        have hlit := rowIn_lit (enc := Off.cells) (e := 72) w6 [⟨cc, x, y, some ⟨z5, 0, none⟩, 1, none, 0, [1 + (g5 : Int)], []⟩] #[.string cc, .int .i64 x, .int .i64 y, .slice (some ⟨z5, 0, none⟩) 1 1, .slice none 0 0] w6.heap.size rfl (by simp [flatE, Off.cells]) 1 rfl
        have hown6 := hr7.r7.ms.rows
        have hsz6 : w1.heap.size ≤ (w6.alloc (.cells #[.string cc, .int .i64 x, .int .i64 y, .slice (some ⟨z5, 0, none⟩) 1 1, .slice none 0 0] 72)).heap.size := hr7.r7.ms.keep.size
        have HR6 := Lib.hid hr7
        have hc7 : ∀ j, w6.cell? ⟨ob, j, none⟩ = (#[.string cc, .int .i64 x, .int .i64 y, .slice (some ⟨z5, 0, none⟩) 1 1, .slice none 0 0] : Array Value)[j]? := hc6
        clear hr6 hr7 hb7 hc6 hc5 hf5 hwr5 hs5
        go_wp2_with (at_builtin; refine wpList_append_row offT rfl (.tmp 50) (.tmp 52) rfl w1.heap.size _ _ L [⟨cc, x, y, some ⟨z5, 0, none⟩, 1, none, 0, [1 + (g5 : Int)], []⟩] rfl rfl hown6 hlit (by simp; omega) hsz6 ?_; intro v9 w9 hA9; obtain ⟨p9, c9, rfl⟩ := own_form hA9.own)
        have hms := HR6.out.r7.done hA9
        have hgl := HG.out.put HR6.out.good HR6.out.code
        simp only [List.length_append, List.length_singleton] at hms
        clear hA9 hown6 hlit hc7
        go_roundw
        case rel => exact ⟨k + 1, by omega, by go_num, L ++ [⟨cc, x, y, some ⟨z5, 0, none⟩, 1, none, 0, [1 + (g5 : Int)], []⟩], p9, c9, by simp, hgl, by simpa using hms⟩
        case measure => simp [RowKit.intOf]; omega
    · have hk4' : decide ((k : Int) < 4) = false := decide_eq_false (by omega)
      have hov := Lib.hid (rowIn_own (enc := Off.cells) (fun _ => rfl) (by decide) HM.out.rows)
      have hok : Hid (∀ o ∈ L, OffOk wr o) := Lib.hid fun o ho => ⟨rowIn_own (fun _ => rfl) (by decide) (HM.out.ok o ho).1, rowIn_own (fun _ => rfl) (by decide) (HM.out.ok o ho).2⟩
      have HBE : Hid (RowKit.Below w.heap.size w wr) := Lib.hid (HB1.out.grown HM.out.keep HB1.out.size (fun q hq => by injection hq with hq; omega))
      have HCE : Hid (CodesAt (w.heap.size + 1) wr) := Lib.hid (HCOD.out.grown HM.out.keep (by simp))
      have hsE : w.heap.size + 1 < wr.heap.size := lt_of_heap HCE.out
      clear HM HI HB1 HCOD hcl hLl hk hk4
      rename World => wE
      have hb2 := below_alloc1 wE (.cells #[.slice A1 n1 c1, .int .i64 0] 75)
      have hd2 : DrawS wE.heap.size A1 n1 c1 (wE.alloc (.cells #[.slice A1 n1 c1, .int .i64 0] 75)) := ⟨0, Nat.zero_le _, heap_alloc_new wE _⟩
      have hi2 : Hid (IntsIn wE.heap.size A1 n1 (wE.alloc (.cells #[.slice A1 n1 c1, .int .i64 0] 75))) := Lib.hid (ints_up (H1.out.below (below_next HBE.out hb2)) HBE.out.size)
      have HC2 : Hid (CodesAt (w.heap.size + 1) (wE.alloc (.cells #[.slice A1 n1 c1, .int .i64 0] 75))) := Lib.hid (HCE.out.below hb2)
      have hsm : SM (wE.alloc (.cells #[.slice A1 n1 c1, .int .i64 0] 75)) wE.heap.size A1 n1 c1 (.slice none 0 0) [] (wE.alloc (.cells #[.slice A1 n1 c1, .int .i64 0] 75)) := ⟨below_grows (Below.refl _ _), hd2, World.ownsRow_nil _ _ _ _, hd2.lt, fun s h => (by cases h)⟩
      have HB2 := Lib.hid hb2
      have hz2 : wE.heap.size < (wE.alloc (.cells #[.slice A1 n1 c1, .int .i64 0] 75)).heap.size := by simp
      clear hb2 hd2
      go_upto_region 12 with fail
      clear hk4'
      generalize wE.alloc _ = W2 at hi2 HC2 hsm HB2 hz2 ⊢
      go_wp2_with fail
      go_loopw [14, 15] (fun v i wr => ∃ s : Nat, 1 ≤ s ∧ s ≤ 5 ∧ i = .int .i64 s ∧ MetSt2 W2 wE.heap.size A1 n1 c1 (4 * (s - 1)) v wr) (fun _ i _ => 5 - (RowKit.intOf i).toNat)
      case atStart => exact ⟨1, by omega, by omega, rfl, [], none, 0, rfl, Nat.zero_le _, hsm⟩
      case round =>
        clear hsm
        obtain ⟨s, hs1, hs5, rfl, hst⟩ := hrel
        by_cases hlt : s ≤ 4
        · have hs4 : decide ((s : Int) ≤ 4) = true := decide_eq_true (by omega)
          have HST := Lib.hid hst
          obtain ⟨M0, p0, e0, rfl, _⟩ := hst
          go_wp2_with fail
          go_loopw [14, 16] (fun v i wr => ∃ k : Nat, k ≤ 4 ∧ i = .int .i64 k ∧ MetSt2 W2 wE.heap.size A1 n1 c1 (4 * (s - 1) + k) v wr) (fun _ i _ => 4 - (RowKit.intOf i).toNat)
          case atStart => exact ⟨0, by omega, rfl, HST.out⟩
          case round =>
            clear HST
            obtain ⟨k, hk, rfl, M, pm, em, rfl, hml, hm⟩ := hrel
            have HM := Lib.hid hm
            clear hm
            by_cases hlk : k < 4
            · have hk4 : decide ((k : Int) < 4) = true := decide_eq_true (by omega)
              have cn := next_st wE.heap.size A1 n1 c1 8 wr (by omega) (by omega) HM.out.draw (HM.out.ints hi2.out)
              go_wp2_with fail
              refine cn.mono ?_
              rintro _ w5 ⟨g, rfl, hg8, hdw, hs⟩
              have hm5 := HM.out.next hs hdw
              have HM5 := Lib.hid hm5
              clear cn hdw hs hm5
              by_cases hg7 : g = 7
              · subst hg7
                go_wp2_with fail
                go_roundw
                case rel => exact ⟨k + 1, by omega, by go_num, M, pm, em, rfl, by omega, HM5.out⟩
                case measure => simp [RowKit.intOf]; omega
              · have hg7' : ((g : Int) != 7) = true := by simp; omega
                obtain ⟨cc, hcc⟩ : ∃ cc, codesL[k]? = some cc := ⟨_, List.getElem?_eq_getElem (by show k < 6; omega)⟩
                have hcell : w5.cell? ⟨w.heap.size + 1, k, none⟩ = some (.string cc) := codes_cell (HC2.out.grown HM5.out.keep (by simp; omega)) (by omega) hcc
                have HSW := Lib.hid (seat_small hs1 hlt (List.mem_of_getElem? hcc))
                have hm6 := HM5.out.below (below_alloc1 w5 (.cells #[.int .i64 s, .string cc] 38))
                have hown9 := hm6.rows
                have hsz9 : W2.heap.size ≤ (w5.alloc (.cells #[.int .i64 s, .string cc] 38)).heap.size := hm6.keep.size
                have hlit := rowIn_lit (enc := Seat.cells) (e := 38) w5 [⟨s, cc⟩] #[.int .i64 s, .string cc] w5.heap.size rfl rfl 1 rfl
                have HM6 := Lib.hid hm6
                clear hcc hm6 hg7
                go_wp2_with (at_builtin; refine wpList_append_row seatT rfl (.tmp 68) (.tmp 75) rfl W2.heap.size _ _ M [⟨s, cc⟩] rfl rfl hown9 hlit (by simp; omega) hsz9 ?_; intro v9 w9 hA9; obtain ⟨p9, c9, rfl⟩ := own_form hA9.own)
                have hmF := HM6.out.put hA9 HSW.out
                simp only [List.length_append, List.length_singleton] at hmF
                go_roundw
                case rel => exact ⟨k + 1, by omega, by go_num, M ++ [⟨s, cc⟩], p9, c9, by simp, by simp; omega, by simpa using hmF⟩
                case measure => simp [RowKit.intOf]; omega
            · obtain rfl : k = 4 := by omega
              go_wp2_with fail
              go_roundw
              case rel => exact ⟨s + 1, by omega, by omega, by go_num, M, pm, em, rfl, by omega, HM.out⟩
              case measure => simp [RowKit.intOf]; omega
        · have hs4 : decide ((s : Int) ≤ 4) = false := decide_eq_false (by omega)
          have hs16 : 4 * (s - 1) ≤ 16 := by omega
          obtain ⟨M, pm, em, rfl, hml, hm⟩ := hst
          have hmv := Lib.hid (rowIn_own (enc := Seat.cells) (fun _ => rfl) (by decide) hm.rows)
          have hmw := Lib.hid hm.wf
          have HEM : Hid (RowKit.Below wE.heap.size wE wr) := Lib.hid (HB2.out.grown hm.keep (Nat.le_of_lt hz2) (fun q hq => by injection hq with hq; omega))
          have HCM : Hid (CodesAt (w.heap.size + 1) wr) := Lib.hid (HC2.out.grown hm.keep (by simp; omega))
          have HI2 : Hid (IntssIn wr.heap.size A2 n2 wr) := Lib.hid (intss_at H2.out (below_next HBE.out HEM.out))
          clear hm hi2 HC2 HB2 hz2 hlt hs1 hs5 HCE
          go_upto_region 21 with fail
          clear hs4
          rename World => wM
          generalize wE.heap.size = dz
          have hcbM : w.heap.size + 1 < wM.heap.size := lt_of_heap HCM.out
          go_wp2_with fail
          go_loopw [17, 18] (fun v i wr => ∃ (k : Nat) (es : List Req), k ≤ n2 ∧ k ≤ 10 ∧ i = .int .i64 k ∧ Hid (es.length = k) ∧ Hid (∀ e ∈ es, e.Small) ∧ wr.ownsRow wM.heap.size 41 9 v es.length (reqCells es) ∧ RowKit.Below wM.heap.size wM wr) (fun _ i _ => 10 - (RowKit.intOf i).toNat)
          case atStart => exact ⟨0, [], Nat.zero_le _, by omega, rfl, Lib.hid rfl, Lib.hid (by simp), World.ownsRow_nil _ _ _ _, Below.refl _ _⟩
          case round =>
            obtain ⟨k, es, hk, hk10, rfl, HL, HS, hown, hb⟩ := hrel
            obtain ⟨pv, cv, rfl⟩ := own_form hown
            have hel : es.length ≤ 10 := by have := HL.out; omega
            by_cases hlt : k < n2
            · by_cases h10 : k < 10
              · obtain ⟨b0, off, A, n, c, rfl, hbB, hc0, hin⟩ := HI2.out.2 k hlt
                have hbs := hb.size
                have hcr : wr.cell? ⟨b0, off + k, none⟩ = some (.slice A n c) := (hb.cell (p := ⟨b0, off + k, none⟩) hbB).trans hc0
                have hil : (k : Int) < (n2 : Int) := by omega
                have hil2 : (k : Int) < 10 := by omega
                clear hc0
                have hr0 : RS wM wr.heap.size A n c (.slice pv es.length cv) es (wr.alloc (.cells #[.slice A n c, .int .i64 0] 75)) :=
                  ⟨hb.alloc hbs _, hown.alloc _, ⟨0, Nat.zero_le _, heap_alloc_new _ _⟩, (hin.below hb).below ((below_alloc1 _ _).mono hbs), hbs⟩
                have hRC : RC wM wr.heap.size A n c (.slice pv es.length cv) es (w.heap.size + 1) (wr.alloc (.cells #[.slice A n c, .int .i64 0] 75)).heap.size (wr.alloc (.cells #[.slice A n c, .int .i64 0] 75)) :=
                  ⟨hr0, (hr0.below.block _ hcbM).trans HCM.out, fun q hq => (own_lo hr0.rows hq).2, hr0.below.size, Nat.le_refl _⟩
                go_wp2_with fail
                clear hcr hin hown hb hr0 hil hil2
                generalize wr.heap.size = d at hRC ⊢
                generalize wr.alloc _ = W3 at hRC ⊢
                have hlo3 := hRC.lo
                refine md_r26 wM d (w.heap.size + 1) k n c A (.slice pv es.length cv) es W3 _ hRC h10 ?_
                intro u99 u100 u103 u104 u105 u107 u109 u110 u111 b r w4 hRC4 hlb hbx hsm
                have hB4 : RB wM d A n c (.slice pv es.length cv) es b r w4 := ⟨hRC4.rs, hbx, fun e => absurd (hRC4.vl b e) (by omega), Nat.le_trans hlo3 hlb⟩
                have HSM := Lib.hid hsm
                have cn := next_rb wM d A n c (.slice pv es.length cv) es b r 3 _ (by omega) (by omega) hB4
                clear hRC hRC4 hbx hsm hB4
                go_wp2_with fail
                refine cn.mono ?_
                rintro x w5 ⟨g, rfl, hg, hB5⟩
                have HB5 := Lib.hid hB5
                clear cn hB5
                by_cases hg0 : g = 0
                · subst hg0
                  go_wp2_with fail
                  go_loopw [20] (fun i wr => ∃ (j : Nat) (r' : Req), j ≤ es.length ∧ i = .int .i64 j ∧ Hid (RB wM d A n c (.slice pv es.length cv) es b r' wr) ∧ Hid r'.Small) (fun i _ => es.length - (RowKit.intOf i).toNat)
                  case atStart => exact ⟨0, r, Nat.zero_le _, rfl, HB5, HSM⟩
                  case round =>
                    clear HB5 HSM
                    obtain ⟨j, r', hj, rfl, HB, HSM⟩ := hrel
                    by_cases hjl : j < es.length
                    · obtain ⟨gr, gof, c', hv, _, hgl, hx⟩ := (reqsIn_own HB.out.rs.rows).at_ (by omega)
                      have e1 := (Value.slice.inj hv).1
                      subst e1
                      have hz := List.getElem?_eq_getElem hjl
                      have HSX := Lib.hid ((HS.out _ (List.getElem_mem hjl)).code)
                      generalize es[j] = x at HSX hz
                      have x3 : wr.cell? ⟨gr, gof + j * 9 + 3, none⟩ = some (.int .i64 x.student) := hx j x hz 3 _ rfl
                      have x5 : wr.cell? ⟨gr, gof + j * 9 + 5, none⟩ = some (.string x.code) := hx j x hz 5 _ rfl
                      have x6 : wr.cell? ⟨gr, gof + j * 9 + 6, none⟩ = some (.string x.give) := hx j x hz 6 _ rfl
                      clear hx hv hz
                      have hbc : ∀ i, wr.cell? ⟨b, i, none⟩ = (#[.int .i64 r'.server, .int .i64 r'.seq, .bool r'.cancel, .int .i64 r'.student, .int .i64 r'.term, .string r'.code, .string r'.give, .int .i64 r'.priority, .int .i64 r'.day] : Array Value)[i]? := HB.out.box.cell
                      have hjl' : (j : Int) < (es.length : Int) := by omega
                      by_cases h31 : x.student = r'.student
                      · have t1 : (x.student == r'.student) = true := by simpa using h31
                        clear h31
                        by_cases h32 : x.code = r'.code
                        · have t2 : (x.code.toList != r'.code.toList) = false := by rw [h32]; simp
                          have t2b : (x.code.toList == r'.code.toList) = true := by rw [h32]; simp
                          clear h32
                          go_wp2_with fail
                          go_quiet (fail)
                          have hbn := blw_drewN (Below.refl wr.heap.size wr) nq
                          have HBN := Lib.hid (HB.out.below' hbn)
                          clear hbn hbc x3 x5 x6
                          go_wp2_with fail
                          go_roundw
                          case rel => exact ⟨j + 1, r', by omega, by go_num, HBN, HSM⟩
                          case measure => simp [RowKit.intOf]; omega
                        · have t2 : (x.code.toList != r'.code.toList) = true := by simp [req_ba, h32]
                          have t2b : (x.code.toList == r'.code.toList) = false := by simp [req_ba, h32]
                          clear h32
                          by_cases h33 : x.give.size = 0
                          · have t3 : x.give.toList.isEmpty = true := by have := give_test x.give; rw [decide_eq_true h33] at this; simpa using this
                            have t3b : (x.give.toList == []) = true := by rw [← t3]; cases x.give.toList <;> rfl
                            clear h33
                            go_wp2_with fail
                            go_quiet (fail)
                            have hbn := blw_drewN (Below.refl wr.heap.size wr) nq
                            have HBN := Lib.hid ((HB.out.below' hbn).set (r' := { r' with give := x.code }) 6 (.string x.code) rfl)
                            have hbf := HB.out.box.frozen
                            clear hbn
                            go_wp2_with fail
                            go_roundw
                            case rel => exact ⟨j + 1, { r' with give := x.code }, by omega, by go_num, HBN, Lib.hid (small_give HSM.out HSX.out)⟩
                            case measure => simp [RowKit.intOf]; omega
                          · have t3 : x.give.toList.isEmpty = false := by have := give_test x.give; rw [decide_eq_false h33] at this; simpa using this
                            have t3b : (x.give.toList == []) = false := by rw [← t3]; cases x.give.toList <;> rfl
                            clear h33
                            go_wp2_with fail
                            go_quiet (fail)
                            have hbn := blw_drewN (Below.refl wr.heap.size wr) nq
                            have HBN := Lib.hid (HB.out.below' hbn)
                            clear hbn hbc x3 x5 x6
                            go_wp2_with fail
                            go_roundw
                            case rel => exact ⟨j + 1, r', by omega, by go_num, HBN, HSM⟩
                            case measure => simp [RowKit.intOf]; omega
                      · have t1 : (x.student == r'.student) = false := by simpa using h31
                        clear h31
                        go_wp2_with fail
                        go_quiet (fail)
                        have hbn := blw_drewN (Below.refl wr.heap.size wr) nq
                        have HBN := Lib.hid (HB.out.below' hbn)
                        clear hbn hbc x3 x5 x6
                        go_wp2_with fail
                        go_roundw
                        case rel => exact ⟨j + 1, r', by omega, by go_num, HBN, HSM⟩
                        case measure => simp [RowKit.intOf]; omega
                    · obtain rfl : j = es.length := by omega
                      have hjl' : decide ((es.length : Int) < (es.length : Int)) = false := decide_eq_false (by omega)
                      have hat := HB.out.box.at_
                      have hlen : es.length + 1 ≤ 1000000 := by rw [HL.out]; omega
                      have hown5 := HB.out.rs.rows.alloc (.cells (Req.cells r') 41)
                      have hsz5 : wM.heap.size ≤ (wr.alloc (.cells (Req.cells r') 41)).heap.size := by have := HB.out.rs.below.size; simp; omega
                      have hone := reqs_one_at wr r' wr.heap.size rfl
                      simp only [Req.cells] at hown5 hsz5 hone
                      go_wp2_with (first
                        | ((with_reducible refine wpList_load_mid (op := ⟨some 154, _, _, _, _, _⟩) ?_ 41 (.tmp 19) ?_ b 0 ?_ (Req.cells r').toList _ ?_ Tryz.underlying41 ?_ ?_ ?_); rfl; rfl; rfl; exact hat; rfl; kernel_rfl)
                        | (at_builtin; go_must (refine wpList_append_reqs rfl (.tmp 153) (.tmp 155) rfl wM.heap.size (.slice pv es.length cv) _ es [r'] rfl rfl hown5 hone hlen hsz5 ?_); intro v' w7 hown' hg'))
                      have hbF := HB.out.append hg'
                      clear hat hown5 hsz5 hone hg'
                      go_roundw
                      case rel => exact ⟨k + 1, es ++ [r'], by omega, by omega, by go_num, Lib.hid (by simp [HL.out]), Lib.hid (small_snoc HS.out HSM.out), hown', hbF⟩
                      case measure => simp [RowKit.intOf]; omega
                · have hg0' : ((g : Int) == 0) = false := by simpa using hg0
                  clear hg0
                  have hat := HB5.out.box.at_
                  have hlen : es.length + 1 ≤ 1000000 := by rw [HL.out]; omega
                  have hown5 := HB5.out.rs.rows.alloc (.cells (Req.cells r) 41)
                  have hsz5 : wM.heap.size ≤ (w5.alloc (.cells (Req.cells r) 41)).heap.size := by have := HB5.out.rs.below.size; simp; omega
                  have hone := reqs_one_at w5 r w5.heap.size rfl
                  simp only [Req.cells] at hown5 hsz5 hone
                  go_wp2_with (first
                    | ((with_reducible refine wpList_load_mid (op := ⟨some 154, _, _, _, _, _⟩) ?_ 41 (.tmp 19) ?_ b 0 ?_ (Req.cells r).toList _ ?_ Tryz.underlying41 ?_ ?_ ?_); rfl; rfl; rfl; exact hat; rfl; kernel_rfl)
                    | (at_builtin; go_must (refine wpList_append_reqs rfl (.tmp 153) (.tmp 155) rfl wM.heap.size (.slice pv es.length cv) _ es [r] rfl rfl hown5 hone hlen hsz5 ?_); intro v' w7 hown' hg'))
                  have hbF := HB5.out.append hg'
                  clear hat hown5 hsz5 hone hg'
                  go_roundw
                  case rel => exact ⟨k + 1, es ++ [r], by omega, by omega, by go_num, Lib.hid (by simp [HL.out]), Lib.hid (small_snoc HS.out HSM.out), hown', hbF⟩
                  case measure => simp [RowKit.intOf]; omega
              · obtain rfl : k = 10 := by omega
                go_wp2_with fail
                refine bodyPost_ret (results_tmp3 Tryz.results17 _ _ _) rfl ⟨_, _, _, L, M, es, rfl, ⟨HG.out.cat ((hov.out.below HEM.out).below hb) (fun o ho => ((hok.out o ho).below HEM.out).below hb) (hmv.out.below hb) hmw.out (by omega), HG.out.few (fun o ho => ((hok.out o ho).below HEM.out).below hb), HG.out.calm, reqsIn_own hown, by have := HL.out; omega, HS.out⟩, below_next (below_next HBE.out HEM.out) hb⟩
            · obtain rfl : k = n2 := by omega
              go_wp2_with fail
              refine bodyPost_ret (results_tmp3 Tryz.results17 _ _ _) rfl ⟨_, _, _, L, M, es, rfl, ⟨HG.out.cat ((hov.out.below HEM.out).below hb) (fun o ho => ((hok.out o ho).below HEM.out).below hb) (hmv.out.below hb) hmw.out (by omega), HG.out.few (fun o ho => ((hok.out o ho).below HEM.out).below hb), HG.out.calm, reqsIn_own hown, by have := HL.out; omega, HS.out⟩, below_next (below_next HBE.out HEM.out) hb⟩
end Go.Proofs.YtjcogpalmgcpbaaGreat
