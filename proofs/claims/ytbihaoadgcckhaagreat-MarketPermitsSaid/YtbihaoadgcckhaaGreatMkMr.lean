/- quadriviumref07.Made: what a course requires is put on. -/
import Derived.Test.YtbihaoadgcckhaaGreatMkMe
import Derived.Test.YtbihaoadgcckhaaGreatWPar
namespace Go.Proofs.YtbihaoadgcckhaaGreat
open Go Go.Proofs Go.RowKit Go.Maps Go.Sort Go.Lib

/-- .. while an offer is made. -/
structure RoundSt (W : World) (B d : Nat) (A : Option Addr) (n c k : Nat) (v : Value) (L : List Off) (ob : Nat) (o : Off) (w : World) : Prop where
  r7 : R7 W B d A n c v L ob o w
  good : GoodO o
  code : codesL[k]? = some o.code
section
variable {W w w' : World} {B d n c k ob gp op : Nat} {A : Option Addr} {v u : Value} {L : List Off} {o : Off} {cd : ByteArray}
theorem RoundSt.next (h : RoundSt W B d A n c k v L ob o w) (hs : Only d w w') (hd : DrawS d A n c w') : RoundSt W B d A n c k v L ob o w' := ⟨h.r7.next hs hd, h.good, h.code⟩
theorem RoundSt.below (h : RoundSt W B d A n c k v L ob o w) (hb : RowKit.Below w.heap.size w w') : RoundSt W B d A n c k v L ob o w' := ⟨h.r7.below hb, h.good, h.code⟩
def OneT (w : World) (cd : ByteArray) (u : Value) : Prop := ∃ b, u = .slice (some ⟨b, 0, none⟩) 1 1 ∧ RowIn encT w (.slice (some ⟨b, 0, none⟩) 1 1) [cd]
def Added (W : World) (B d : Nat) (A : Option Addr) (n c k : Nat) (v : Value) (L : List Off) (ob : Nat) (o : Off) (cd : ByteArray) (u : Value) (w : World) : Prop := ∃ w0 p cp, u = .slice p (o.needs.length + 1) cp ∧ RoundSt W B d A n c k v L ob o w0 ∧ AppT encT 1 9 w0 B (.slice o.np o.needs.length o.nc) o.needs [cd] (.slice p (o.needs.length + 1) cp) w
def MoreN (W : World) (B d : Nat) (A : Option Addr) (n c k : Nat) (v : Value) (L : List Off) (ob : Nat) (w : World) : Prop := ∃ o', RoundSt W B d A n c k v L ob o' w
theorem Added.box (h : Added W B d A n c k v L ob o cd u w) : w.heap[ob]? = some (.cells #[.string o.code, .int .i64 o.credits, .int .i64 o.places, .slice o.sp o.slots.length o.sc, .slice o.np o.needs.length o.nc] 52 (0, 0)) := by
  obtain ⟨w0, p, cp, _, hr, hA⟩ := h
  exact (hA.grown.block ob (Array.getElem?_eq_some_iff.1 hr.r7.box).1 (fun e => own_type hr.r7.nd hr.r7.box (by decide) e.symm)).trans hr.r7.box
end
set_option maxHeartbeats 16000000 in
set_option maxRecDepth 100000 in
theorem made07_r19 {s0 s1 s2 s3 s5 s6 s8 s10 s11 s12 s13 s14 s15 s16 s17 s18 s19 s20 s21 s22 s23 s24 s25 s26 s27 s28 s29 s30 s31 s32 s33 s34 s35 s36 s37 s38 s39 s40 s41 s42 s43 s44 s45 s46 s47 s48 s49 s50 s51 s52 s53 s54 s55 s56 s57 s58 s59 s60 s61 s62 s63 s64 s65 s66 s67 s68 s69 s70 s71 s72 s73 s74 s75 s76 s77 s78 s79 s80 s81 s82 s83 s84 s85 s86 s87 s88 s89 s90 s91 s92 s93 s94 s95 s96 s97 s98 s99 s100 : Value} (W : World) (B d n c k ob gp op i LL ep : Nat) (A : Option Addr) (v : Value) (L : List Off) (o : Off) (cd : ByteArray) (W2 : World) (Q : Exit → Act → World → Prop) (hr : RoundSt W B d A n c k v L ob o W2) (hcd : W2.cell? ⟨gp, op + i * 5, none⟩ = some (.string cd)) (hgp : gp < B) (hgn : (Value.slice o.np o.needs.length o.nc).ownBlock ≠ some gp) (hil : i < LL) (hnl : o.needs.length < 2)
    (hQ : ∀ (u87 u93 u94 u95 : Value) (wx : World), MoreN W B d A n c k v L ob wx → Q .normal ⟨List.toArray (s0 :: s1 :: s2 :: s3 :: .slice (some ⟨gp, op, none⟩) LL ep :: s5 :: s6 :: .pointer (some ⟨ob, 0, none⟩) :: s8 :: .int .i64 (i : Int) :: s10 :: s11 :: s12 :: s13 :: s14 :: s15 :: s16 :: s17 :: s18 :: s19 :: s20 :: s21 :: s22 :: s23 :: s24 :: s25 :: s26 :: s27 :: s28 :: s29 :: s30 :: s31 :: s32 :: s33 :: s34 :: s35 :: s36 :: s37 :: s38 :: s39 :: s40 :: s41 :: s42 :: s43 :: s44 :: s45 :: s46 :: s47 :: s48 :: s49 :: s50 :: s51 :: s52 :: s53 :: s54 :: s55 :: s56 :: s57 :: s58 :: s59 :: s60 :: s61 :: s62 :: s63 :: s64 :: s65 :: s66 :: s67 :: s68 :: s69 :: s70 :: s71 :: s72 :: s73 :: s74 :: s75 :: s76 :: s77 :: s78 :: s79 :: s80 :: s81 :: s82 :: s83 :: s84 :: s85 :: .pointer (some ⟨ob, 4, none⟩) :: u87 :: .slice (some ⟨gp, op, none⟩) LL ep :: .int .i64 (i : Int) :: .pointer (some ⟨gp, op + i * 5, none⟩) :: .pointer (some ⟨gp, op + i * 5, none⟩) :: .string cd :: u93 :: u94 :: u95 :: s96 :: s97 :: s98 :: s99 :: s100 :: []), []⟩ wx) :
    (regionOf Tryz.f22 19).wp Tryz.prog Q ⟨List.toArray (s0 :: s1 :: s2 :: s3 :: .slice (some ⟨gp, op, none⟩) LL ep :: s5 :: s6 :: .pointer (some ⟨ob, 0, none⟩) :: s8 :: .int .i64 (i : Int) :: s10 :: s11 :: s12 :: s13 :: s14 :: s15 :: s16 :: s17 :: s18 :: s19 :: s20 :: s21 :: s22 :: s23 :: s24 :: s25 :: s26 :: s27 :: s28 :: s29 :: s30 :: s31 :: s32 :: s33 :: s34 :: s35 :: s36 :: s37 :: s38 :: s39 :: s40 :: s41 :: s42 :: s43 :: s44 :: s45 :: s46 :: s47 :: s48 :: s49 :: s50 :: s51 :: s52 :: s53 :: s54 :: s55 :: s56 :: s57 :: s58 :: s59 :: s60 :: s61 :: s62 :: s63 :: s64 :: s65 :: s66 :: s67 :: s68 :: s69 :: s70 :: s71 :: s72 :: s73 :: s74 :: s75 :: s76 :: s77 :: s78 :: s79 :: s80 :: s81 :: s82 :: s83 :: s84 :: s85 :: s86 :: s87 :: s88 :: s89 :: s90 :: s91 :: s92 :: s93 :: s94 :: s95 :: s96 :: s97 :: s98 :: s99 :: s100 :: []), []⟩ W2 := by
  refine of_onlyN (K := Q .normal) ?_ (fun _ _ h => h)
  generalize Q .normal = K at hQ ⊢
  have HQ := Lib.hid hQ; clear hQ
  have hil1 : (i : Int) < (LL : Int) := by omega
  have hil0 : (0 : Int) ≤ (i : Int) := by omega
  have hr0 := hr.below (Below.refl _ _).drew
  have hol := hr.r7.ol
  conv => arg 2; whnf
  have hS0 : W2.drew.cell? ⟨gp, op + i * 5, none⟩ = some (.string cd) := hcd
  refine wp_region_par (S := fun w' => w'.cell? ⟨gp, op + i * 5, none⟩ = some (.string cd)) (I := fun L' a w => ∃ u87 u93 u94 u95 : Value, a = ⟨List.toArray (s0 :: s1 :: s2 :: s3 :: .slice (some ⟨gp, op, none⟩) LL ep :: s5 :: s6 :: .pointer (some ⟨ob, 0, none⟩) :: s8 :: .int .i64 (i : Int) :: s10 :: s11 :: s12 :: s13 :: s14 :: s15 :: s16 :: s17 :: s18 :: s19 :: s20 :: s21 :: s22 :: s23 :: s24 :: s25 :: s26 :: s27 :: s28 :: s29 :: s30 :: s31 :: s32 :: s33 :: s34 :: s35 :: s36 :: s37 :: s38 :: s39 :: s40 :: s41 :: s42 :: s43 :: s44 :: s45 :: s46 :: s47 :: s48 :: s49 :: s50 :: s51 :: s52 :: s53 :: s54 :: s55 :: s56 :: s57 :: s58 :: s59 :: s60 :: s61 :: s62 :: s63 :: s64 :: s65 :: s66 :: s67 :: s68 :: s69 :: s70 :: s71 :: s72 :: s73 :: s74 :: s75 :: s76 :: s77 :: s78 :: s79 :: s80 :: s81 :: s82 :: s83 :: s84 :: s85 :: .pointer (some ⟨ob, 4, none⟩) :: u87 :: .slice (some ⟨gp, op, none⟩) LL ep :: .int .i64 (i : Int) :: .pointer (some ⟨gp, op + i * 5, none⟩) :: .pointer (some ⟨gp, op + i * 5, none⟩) :: .string cd :: u93 :: u94 :: u95 :: s96 :: s97 :: s98 :: s99 :: s100 :: []), []⟩ ∧ w.cell? ⟨gp, op + i * 5, none⟩ = some (.string cd) ∧ (L'.getD 8 false = false → RoundSt W B d A n c k v L ob o w) ∧ (L'.getD 1 false = true → u87 = (.slice o.np o.needs.length o.nc)) ∧ (L'.getD 7 false = true → L'.getD 8 false = false → OneT w cd u93) ∧ (L'.getD 8 false = true → L'.getD 10 false = false → Added W B d A n c k v L ob o cd u94 w) ∧ (L'.getD 10 false = true → MoreN W B d A n c k v L ob w) ∧ (L'.getD 9 false = true → u95 = .pointer (some ⟨ob, 4, none⟩))) (pre := fun j L' => L'.size == 11 && !L'.getD 10 false && ((j == 1 && !L'.getD 8 false) || (j == 7 && !L'.getD 8 false) || (j == 8 && L'.getD 1 false && L'.getD 7 false && !L'.getD 8 false) || (j == 9 && L'.getD 8 false) || (j == 10 && L'.getD 8 false && L'.getD 9 false))) (fin := fun L' => L'.getD 10 false) [0, 2, 3, 4, 5, 6] 5 (by kernel_rfl) (by kernel_rfl) (by kernel_rfl) (by kernel_rfl) (by decide) hS0 ?_ ?_ ?_
  · intro j L' a w hp hI
    obtain ⟨u87, u93, u94, u95, rfl, hcw, h8, h1, h7, hA, hF, h9⟩ := hI
    simp only [Bool.and_eq_true, Bool.or_eq_true, beq_iff_eq, Bool.not_eq_true'] at hp
    obtain ⟨⟨hsz, h10⟩, hp⟩ := hp
    rcases hp with ((((⟨rfl, q8⟩ | ⟨rfl, q8⟩) | ⟨⟨⟨rfl, p1⟩, p7⟩, q8⟩) | ⟨rfl, p8⟩) | ⟨⟨rfl, p8⟩, p9⟩)
    · have g1 : (L'.setIfInBounds 1 true).getD 1 false = true := by rw [up_set, if_pos ⟨rfl, by omega⟩]
      have g7 : (L'.setIfInBounds 1 true).getD 7 false = L'.getD 7 false := by rw [up_set, if_neg (by omega)]
      have g8 : (L'.setIfInBounds 1 true).getD 8 false = L'.getD 8 false := by rw [up_set, if_neg (by omega)]
      have g9 : (L'.setIfInBounds 1 true).getD 9 false = L'.getD 9 false := by rw [up_set, if_neg (by omega)]
      have g10 : (L'.setIfInBounds 1 true).getD 10 false = L'.getD 10 false := by rw [up_set, if_neg (by omega)]
      have hr := h8 q8
      have hbc : w.cell? ⟨ob, 4, none⟩ = some (.slice o.np o.needs.length o.nc) := hr.r7.cell 4
      refine par_run ⟨some 87, _, _, _, _, _⟩ (.slice o.np o.needs.length o.nc) w rfl (by rfl) (by go_simp) ?_
      exact ⟨hcw, (.slice o.np o.needs.length o.nc), u93, u94, u95, by simp only [Act.put, List.setIfInBounds_toArray, List.set_cons_zero, List.set_cons_succ], hcw, by rw [g8]; exact h8, fun _ => rfl, by rw [g7, g8]; exact h7, by rw [g8, g10]; exact hA, by rw [g10]; exact hF, by rw [g9]; exact h9⟩
    · have g1 : (L'.setIfInBounds 7 true).getD 1 false = L'.getD 1 false := by rw [up_set, if_neg (by omega)]
      have g7 : (L'.setIfInBounds 7 true).getD 7 false = true := by rw [up_set, if_pos ⟨rfl, by omega⟩]
      have g8 : (L'.setIfInBounds 7 true).getD 8 false = L'.getD 8 false := by rw [up_set, if_neg (by omega)]
      have g9 : (L'.setIfInBounds 7 true).getD 9 false = L'.getD 9 false := by rw [up_set, if_neg (by omega)]
      have g10 : (L'.setIfInBounds 7 true).getD 10 false = L'.getD 10 false := by rw [up_set, if_neg (by omega)]
      have hr := h8 q8
      have hb := below_alloc1 w (.cells #[.string cd] 9)
      have hcn : (w.alloc (.cells #[.string cd] 9)).cell? ⟨gp, op + i * 5, none⟩ = some (.string cd) := (hb.cell (p := ⟨gp, op + i * 5, none⟩) (by have := (Array.getElem?_eq_some_iff.1 hr.r7.box).1; show gp < w.heap.size; omega)).trans hcw
      refine par_run ⟨some 93, _, _, _, _, _⟩ (.slice (some ⟨w.heap.size, 0, none⟩) 1 1) (w.alloc (.cells #[.string cd] 9)) rfl (by rfl) (by go_simp) ?_
      exact ⟨hcn, u87, (.slice (some ⟨w.heap.size, 0, none⟩) 1 1), u94, u95, by simp only [Act.put, List.setIfInBounds_toArray, List.set_cons_zero, List.set_cons_succ], hcn, by rw [g8]; exact fun e => (h8 e).below hb, by rw [g1]; exact h1, fun _ _ => ⟨w.heap.size, rfl, rowIn_lit (enc := encT) (e := 9) w [cd] #[.string cd] w.heap.size rfl rfl 1 rfl⟩, by rw [g8, g10]; exact (fun e => absurd e (by rw [q8]; decide)), by rw [g10]; exact (fun e => absurd e (by rw [h10]; decide)), by rw [g9]; exact h9⟩
    · have g1 : (L'.setIfInBounds 8 true).getD 1 false = L'.getD 1 false := by rw [up_set, if_neg (by omega)]
      have g7 : (L'.setIfInBounds 8 true).getD 7 false = L'.getD 7 false := by rw [up_set, if_neg (by omega)]
      have g8 : (L'.setIfInBounds 8 true).getD 8 false = true := by rw [up_set, if_pos ⟨rfl, by omega⟩]
      have g9 : (L'.setIfInBounds 8 true).getD 9 false = L'.getD 9 false := by rw [up_set, if_neg (by omega)]
      have g10 : (L'.setIfInBounds 8 true).getD 10 false = L'.getD 10 false := by rw [up_set, if_neg (by omega)]
      have hr := h8 q8
      have e1 := h1 p1
      subst e1
      obtain ⟨b, rfl, hrow⟩ := h7 p7 q8
      refine par_op ⟨some 94, _, _, _, _, _⟩ rfl (by rfl) (wp_append_row strT (.tmp 87) (.tmp 93) (by rfl) B _ _ o.needs [cd] (by rfl) (by rfl) hr.r7.nd hrow (by simp; omega) (by have := (Array.getElem?_eq_some_iff.1 hr.r7.box).1; omega) ?_)
      intro v9 w9 hA9
      obtain ⟨p9, c9, rfl⟩ := own_form hA9.own
      simp only [List.length_append, List.length_singleton] at hA9 ⊢
      have hcn : w9.cell? ⟨gp, op + i * 5, none⟩ = some (.string cd) := hA9.grown.cell hcw (fun e => hgn e.symm)
      exact ⟨hcn, (.slice o.np o.needs.length o.nc), (.slice (some ⟨b, 0, none⟩) 1 1), (.slice p9 (o.needs.length + 1) c9), u95, by simp only [Act.put, List.setIfInBounds_toArray, List.set_cons_zero, List.set_cons_succ], hcn, (fun e => absurd e (by rw [g8]; decide)), by rw [g1]; exact h1, (fun _ e => absurd e (by rw [g8]; decide)), fun _ _ => ⟨w, p9, c9, rfl, hr, hA9⟩, by rw [g10]; exact (fun e => absurd e (by rw [h10]; decide)), by rw [g9]; exact h9⟩
    · have g1 : (L'.setIfInBounds 9 true).getD 1 false = L'.getD 1 false := by rw [up_set, if_neg (by omega)]
      have g7 : (L'.setIfInBounds 9 true).getD 7 false = L'.getD 7 false := by rw [up_set, if_neg (by omega)]
      have g8 : (L'.setIfInBounds 9 true).getD 8 false = L'.getD 8 false := by rw [up_set, if_neg (by omega)]
      have g9 : (L'.setIfInBounds 9 true).getD 9 false = true := by rw [up_set, if_pos ⟨rfl, by omega⟩]
      have g10 : (L'.setIfInBounds 9 true).getD 10 false = L'.getD 10 false := by rw [up_set, if_neg (by omega)]
      refine par_run ⟨some 95, _, _, _, _, _⟩ (.pointer (some ⟨ob, 4, none⟩)) w rfl (by rfl) (by go_simp) ?_
      exact ⟨hcw, u87, u93, u94, (.pointer (some ⟨ob, 4, none⟩)), by simp only [Act.put, List.setIfInBounds_toArray, List.set_cons_zero, List.set_cons_succ], hcw, by rw [g8]; exact h8, by rw [g1]; exact h1, by rw [g7, g8]; exact h7, by rw [g8, g10]; exact hA, by rw [g10]; exact hF, fun _ => rfl⟩
    · have g1 : (L'.setIfInBounds 10 true).getD 1 false = L'.getD 1 false := by rw [up_set, if_neg (by omega)]
      have g7 : (L'.setIfInBounds 10 true).getD 7 false = L'.getD 7 false := by rw [up_set, if_neg (by omega)]
      have g8 : (L'.setIfInBounds 10 true).getD 8 false = L'.getD 8 false := by rw [up_set, if_neg (by omega)]
      have g9 : (L'.setIfInBounds 10 true).getD 9 false = L'.getD 9 false := by rw [up_set, if_neg (by omega)]
      have g10 : (L'.setIfInBounds 10 true).getD 10 false = true := by rw [up_set, if_pos ⟨rfl, by omega⟩]
      have e9 := h9 p9
      subst e9
      have ha := hA p8 h10
      have hbx := ha.box
      obtain ⟨w0, q9, c9, rfl, hr, hA9⟩ := ha
      have hzc : ∀ j, w.cell? ⟨ob, j, none⟩ = (#[.string o.code, .int .i64 o.credits, .int .i64 o.places, .slice o.sp o.slots.length o.sc, .slice o.np o.needs.length o.nc] : Array Value)[j]? := fun j => Lib.cell_of_heap hbx j
      have hzf : ∀ j, w.frozen? ⟨ob, j, none⟩ = false := fun j => Lib.frozen_of_heap hbx j
      have hne : gp ≠ ob := by omega
      have hcn : (w.setCell ⟨ob, 4, none⟩ (.slice q9 (o.needs.length + 1) c9)).cell? ⟨gp, op + i * 5, none⟩ = some (.string cd) := (World.cell?_of_block (a := ⟨gp, op + i * 5, none⟩) (Below.heap_setCell _ _ _ _ hne)).trans hcw
      have hmore : MoreN W B d A n c k v L ob (w.setCell ⟨ob, 4, none⟩ (.slice q9 (o.needs.length + 1) c9)) := ⟨_, hr.r7.need hA9, { hr.good with nd := by show (o.needs ++ [cd]).length ≤ 2; rw [List.length_append]; show o.needs.length + 1 ≤ 2; omega }, hr.code⟩
      refine par_store ⟨none, _, _, _, _, _⟩ (w.setCell ⟨ob, 4, none⟩ (.slice q9 (o.needs.length + 1) c9)) rfl (by rfl) ⟨hcn, u87, u93, (.slice q9 (o.needs.length + 1) c9), (.pointer (some ⟨ob, 4, none⟩)), rfl, hcn, (fun e => absurd e (by rw [g8, p8]; decide)), by rw [g1]; exact h1, (fun _ e => absurd e (by rw [g8, p8]; decide)), (fun _ e => absurd e (by rw [g10]; decide)), fun _ => hmore, fun _ => rfl⟩ (fun K' hk' => ?_)
      unfold Oper.wp
      go_simp
      exact hk'
  · intro L' a w hp hI
    obtain ⟨u87, u93, u94, u95, rfl, _, _, _, _, _, hF, _⟩ := hI
    exact HQ.out _ _ _ _ w (hF hp)
  · refine par_take ⟨some 86, _, _, _, _, _⟩ ?_ rfl (by rfl) ?_ ?_
    rotate_left 1
    · intro w hSw; (try dsimp only at hSw); go_simp; (try with_reducible rfl)
    simp only [Act.put, List.setIfInBounds_toArray, List.set_cons_zero, List.set_cons_succ]
    refine par_take ⟨some 88, _, _, _, _, _⟩ ?_ rfl (by rfl) ?_ ?_
    rotate_left 1
    · intro w hSw; (try dsimp only at hSw); go_simp; (try with_reducible rfl)
    simp only [Act.put, List.setIfInBounds_toArray, List.set_cons_zero, List.set_cons_succ]
    refine par_take ⟨some 89, _, _, _, _, _⟩ ?_ rfl (by rfl) ?_ ?_
    rotate_left 1
    · intro w hSw; (try dsimp only at hSw); go_simp; (try with_reducible rfl)
    simp only [Act.put, List.setIfInBounds_toArray, List.set_cons_zero, List.set_cons_succ]
    refine par_take ⟨some 90, _, _, _, _, _⟩ ?_ rfl (by rfl) ?_ ?_
    rotate_left 1
    · intro w hSw; (try dsimp only at hSw); go_simp; (try with_reducible rfl)
    simp only [Act.put, List.setIfInBounds_toArray, List.set_cons_zero, List.set_cons_succ]
    refine par_take ⟨some 91, _, _, _, _, _⟩ ?_ rfl (by rfl) ?_ ?_
    rotate_left 1
    · intro w hSw; (try dsimp only at hSw); go_simp; (try with_reducible rfl)
    simp only [Act.put, List.setIfInBounds_toArray, List.set_cons_zero, List.set_cons_succ]
    refine par_take ⟨some 92, _, _, _, _, _⟩ ?_ rfl (by rfl) ?_ ?_
    rotate_left 1
    · intro w hSw; (try dsimp only at hSw); go_simp; (try with_reducible rfl)
    simp only [Act.put, List.setIfInBounds_toArray, List.set_cons_zero, List.set_cons_succ]
    exact ⟨_, _, _, _, rfl, hS0, (fun _ => hr0), (fun e => absurd e (by decide +kernel)), (fun e => absurd e (by decide +kernel)), (fun e => absurd e (by decide +kernel)), (fun e => absurd e (by decide +kernel)), (fun e => absurd e (by decide +kernel))⟩
end Go.Proofs.YtbihaoadgcckhaaGreat
