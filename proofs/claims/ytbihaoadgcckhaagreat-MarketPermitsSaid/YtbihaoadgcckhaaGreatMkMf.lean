/- quadriviumref07.Made, walked. -/
import Derived.Test.YtbihaoadgcckhaaGreatMkMr
namespace Go.Proofs.YtbihaoadgcckhaaGreat
open Go Go.Proofs Go.RowKit Go.Maps Go.Sort Go.Lib

/-- Between two rounds. -/
def MadeSt (W : World) (d : Nat) (A : Option Addr) (n c k : Nat) (v : Value) (w : World) : Prop := ∃ (L : List Off) (p : Option Addr) (e : Nat), v = .slice p L.length e ∧ GoodL k L ∧ MS W d A n c (.slice p L.length e) L w
def Made07Post (w : World) (x : Ending) (w' : World) : Prop := ∃ v L, x = .returned v ∧ RowIn Off.cells w' v L ∧ (∀ o ∈ L, OffOk w' o) ∧ GoodL 6 L ∧ RowKit.Below w.heap.size w w'
section
variable {W w w' : World} {B d n c k ob : Nat} {A : Option Addr} {v : Value} {L : List Off} {o : Off}
def SlotSt (W : World) (B d : Nat) (A : Option Addr) (n c k : Nat) (v : Value) (L : List Off) (ob s : Nat) (w : World) : Prop := ∃ o, RoundSt W B d A n c k v L ob o w ∧ (s = 0 ∨ o.slots.length < s)
theorem own_last {w : World} {base k : Nat} {e : TypeId} {p : Option Addr} {cp : Nat} {l : List Int} {x : Int} (h : w.ownsRow base e 1 (.slice p (l.length + 1) cp) (l.length + 1) (flatE encI (l ++ [x]))) (_hk : k = l.length) : ∃ g, p = some ⟨g, 0, none⟩ ∧ w.cell? ⟨g, k, none⟩ = some (.int .i64 x) ∧ l.length + 1 ≤ cp := by
  subst _hk
  rcases h.2 with ⟨_, h0⟩ | ⟨g, cap, cur, hv, _, hg, h2, _, _, h5⟩
  · omega
  · injection hv with e1 e2 e3
    subst e1; subst e3
    refine ⟨g, rfl, ?_, h2⟩
    have hl : (flatE encI (l ++ [x])).length = l.length + 1 := by rw [flatE_len (k := 1) (fun _ => rfl)]; simp
    have hx : (flatE encI (l ++ [x]))[l.length]? = some (.int .i64 x) := by
      have := flatE_at (enc := encI) (k := 1) (fun _ => rfl) (L := l ++ [x]) (i := l.length) (j := 0) (x := x) (u := .int .i64 x) (by simp) rfl
      simpa using this
    rw [Lib.cell_of_heap hg]
    rw [← h5, List.getElem?_take] at hx
    split at hx
    · simpa using hx
    · cases hx
end
set_option maxHeartbeats 8000000 in
set_option maxRecDepth 100000 in
theorem made07_any (A : Option Addr) (n c : Nat) (w : World) (hin : IntsIn w.heap.size A n w) :
    Calls Tryz.prog 22 #[.slice A n c] w (Made07Post w) := by
  have hb0 := below_alloc1 w (.cells #[.slice A n c, .int .i64 0] 104)
  have hd0 : DrawS w.heap.size A n c (w.alloc (.cells #[.slice A n c, .int .i64 0] 104)) := ⟨0, Nat.zero_le _, heap_alloc_new w _⟩
  have hi0 := hin.below hb0
  clear hin
  go_enter Tryz.func22, Tryz.ntmps22
  go_wp2_with fail
  refine (codes_any _).mono ?_
  rintro _ w1 ⟨rfl, hw1⟩
  have hb1 : RowKit.Below (w.alloc (.cells #[.slice A n c, .int .i64 0] 104)).heap.size (w.alloc (.cells #[.slice A n c, .int .i64 0] 104)) w1 := by rw [hw1]; exact below_alloc1 _ _
  have hcod : w1.heap[(w.alloc (.cells #[.slice A n c, .int .i64 0] 104)).heap.size]? = some (.cells #[.string ⟨#[65, 49]⟩, .string ⟨#[66, 49]⟩, .string ⟨#[66, 50]⟩, .string ⟨#[67, 49]⟩, .string ⟨#[68, 49]⟩, .string ⟨#[69, 57]⟩] 9 (0, 0)) := by rw [hw1]; exact heap_alloc_new _ _
  have hszd : (w.alloc (.cells #[.slice A n c, .int .i64 0] 104)).heap.size = w.heap.size + 1 := by simp
  rw [hszd] at hcod
  have hd1 := hd0.below hb1
  have hi1 : IntsIn w.heap.size A n w1 := hi0.below (hb1.mono (by omega))
  have hB1 := below_next hb0 hb1
  have hcl := (Array.getElem?_eq_some_iff.1 hcod).1
  have HCOD := Lib.hid hcod
  have HI := Lib.hid hi1
  have hms : MS w1 w.heap.size A n c (.slice none 0 0) [] w1 := ⟨below_grows (Below.refl _ _), hd1, World.ownsRow_nil _ _ _ _, (fun o ho => (by cases ho)), hd1.lt⟩
  clear hb0 hb1 hd0 hd1 hi0 hi1 hw1 hcod hszd
  go_wp2_with fail
  go_loopw [4, 6] (fun v i wr => ∃ k : Nat, k ≤ 6 ∧ i = .int .i64 k ∧ MadeSt w1 w.heap.size A n c k v wr) (fun _ i _ => 6 - (RowKit.intOf i).toNat)
  case atStart => exact ⟨0, by omega, rfl, [], none, 0, rfl, ⟨(fun o ho => (by cases ho)), List.nil_sublist _⟩, hms⟩
  case round =>
    clear hms
    obtain ⟨k, hk, rfl, L, p, e, rfl, hg, hm⟩ := hrel
    have HG := Lib.hid hg
    have HM := Lib.hid hm
    have hLl := hg.len
    clear hg hm
    by_cases hk6 : k < 6
    · have hk6' : decide ((k : Int) < 6) = true := decide_eq_true (by omega)
      have cn := next_st w.heap.size A n c 5 wr (by omega) (by omega) HM.out.draw (HM.out.ints HI.out)
      go_wp2_with fail
      refine cn.mono ?_
      rintro _ w2 ⟨g, rfl, hg5, hdw, hs⟩
      have hm2 := HM.out.next hs hdw
      clear cn hdw hs
      by_cases hg4 : g = 4
      · subst hg4
        have HM2 := Lib.hid hm2
        clear hm2
        go_wp2_with fail
        go_roundw
        case rel => exact ⟨k + 1, by omega, by go_num, L, p, e, rfl, HG.out.skip, HM2.out⟩
        case measure => simp [RowKit.intOf]; omega
      · have hg4' : ((g : Int) == 4) = false := by simpa using (by omega : ¬ (g : Int) = 4)
        obtain ⟨cc, hcc⟩ : ∃ cc, codesL[k]? = some cc := ⟨_, List.getElem?_eq_getElem (by show k < 6; omega)⟩
        have hcell : w2.cell? ⟨w.heap.size + 1, k, none⟩ = some (.string cc) := by
          refine hm2.keep.cell ?_ (by simp)
          rw [Lib.cell_of_heap HCOD.out]
          have hkk : k = 0 ∨ k = 1 ∨ k = 2 ∨ k = 3 ∨ k = 4 ∨ k = 5 := by omega
          rcases hkk with rfl | rfl | rfl | rfl | rfl | rfl <;> (simp only [codesL] at hcc; injection hcc with hcc; subst hcc; rfl)
        have HCC := Lib.hid hcc
        have hcl2 : w.heap.size + 1 < w2.heap.size := Nat.lt_of_lt_of_le hcl hm2.keep.size
        have hdr2 := hm2.draw
        have hin2 := hm2.ints HI.out
        have HM2 := Lib.hid hm2
        clear hcc hm2 hg4
        go_wp2_with fail
        refine made07_r8 w.heap.size (w.heap.size + 1) k n c A cc w2 _ hdr2 hin2 hcl2 (by omega) hk6 hcell ?_
        intro u27 u29 u30 u31 u32 u34 u35 u36 u37 u7 w3 hst3 hbx3
        obtain ⟨ob, rfl, hob, _, hxy⟩ := hbx3
        obtain ⟨x, y, hbx, hx0, hx1, hy0, hy1⟩ := hxy rfl
        have hm3 := HM2.out.std hst3
        have hr3 : RoundSt w1 w2.heap.size w.heap.size A n c k (.slice p L.length e) L ob ⟨cc, x, y, none, 0, none, 0, [], []⟩ w3 :=
          ⟨R7.lit hst3.1.size hm3 (fun q hq => (HM2.out.mine hq).2) HM2.out.keep.size hob hbx, ⟨List.mem_of_getElem? HCC.out, hx0, hx1, hy0, hy1, by show 0 ≤ 4; omega, by show 0 ≤ 2; omega⟩, HCC.out⟩
        have HR3 := Lib.hid hr3
        clear hst3 hxy hbx hm3 hr3 hdr2 hin2 hcell
        have cn4 := next_st w.heap.size A n c 4 w3 (by omega) (by omega) HR3.out.r7.ms.draw (HR3.out.r7.ms.ints HI.out)
        go_wp2_with fail
        refine cn4.mono ?_
        rintro _ w4 ⟨s0, rfl, hs04, hdw4, hs4⟩
        have HR4 := Lib.hid (HR3.out.next hs4 hdw4)
        clear cn4 hdw4 hs4 HR3
        go_wp2_with fail
        go_loopw [8] (fun v wr => ∃ s : Nat, v = .int .i64 s ∧ s ≤ 4 ∧ SlotSt w1 w2.heap.size w.heap.size A n c k (.slice p L.length e) L ob s wr) (fun v _ => if RowKit.intOf v = 0 then 0 else (5 - RowKit.intOf v).toNat)
        case atStart => exact ⟨s0, rfl, by omega, _, HR4.out, by by_cases h : s0 = 0; exact .inl h; exact .inr (by show 0 < s0; omega)⟩
        case round =>
          clear HR4
          obtain ⟨s, rfl, hs4, o, hr, hsl⟩ := hrel
          have HR := Lib.hid hr
          clear hr
          by_cases hs0 : s = 0
          · subst hs0
            go_wp2_with fail
            go_loopw [9] (fun v wr => ∃ i : Nat, v = .int .i64 i ∧ i ≤ L.length ∧ SlotSt w1 w2.heap.size w.heap.size A n c k (.slice p L.length e) L ob 0 wr) (fun v _ => L.length - (RowKit.intOf v).toNat)
            case atStart => exact ⟨0, rfl, Nat.zero_le _, o, HR.out, .inl rfl⟩
            case round =>
              clear HR
              obtain ⟨i, rfl, hi, o, hr, _⟩ := hrel
              have HR := Lib.hid hr
              clear hr
              by_cases hil : i < L.length
              · have hil' : decide ((i : Int) < (L.length : Int)) = true := decide_eq_true (by omega)
                have cn3 := next_st w.heap.size A n c 3 wr (by omega) (by omega) HR.out.r7.ms.draw (HR.out.r7.ms.ints HI.out)
                go_wp2_with fail
                refine cn3.mono ?_
                rintro _ w5 ⟨g3, rfl, hg3, hdw5, hs5⟩
                have hr5 := HR.out.next hs5 hdw5
                have hc5 := hr5.r7.cell
                have HR5 := Lib.hid hr5
                clear cn3 hdw5 hs5 hr5
                by_cases hg0 : g3 = 0
                · subst hg0
                  by_cases hn2 : o.needs.length < 2
                  · have hn2' : decide ((o.needs.length : Int) < 2) = true := decide_eq_true (by omega)
                    obtain ⟨gp, op, ep, hvp, _, hgpl, hxp⟩ := (rowIn_own (enc := Off.cells) (fun _ => rfl) (by decide) HR5.out.r7.ms.rows).at_ (k := 5) (fun _ => rfl) (by omega)
                    have ep1 := (Value.slice.inj hvp).1
                    subst ep1
                    have hcd := hxp i L[i] (List.getElem?_eq_getElem hil) 0 _ rfl
                    generalize L[i].code = cd at hcd
                    rw [Nat.add_zero] at hcd
                    have hgp : gp < w2.heap.size := HR5.out.r7.lo gp (.inl rfl)
                    have hgn : (Value.slice o.np o.needs.length o.nc).ownBlock ≠ some gp := by
                      rcases own_own HR5.out.r7.nd HR5.out.r7.ms.rows (by decide) with h | h
                      · rw [h]; simp
                      · exact h
                    clear hvp hxp
                    go_wp2_with fail
                    refine made07_r19 w1 w2.heap.size w.heap.size n c k ob gp op i L.length e A (.slice (some ⟨gp, op, none⟩) L.length e) L o cd w5 _ HR5.out hcd hgp hgn hil hn2 ?_
                    intro u87 u93 u94 u95 wx hmore
                    obtain ⟨o', hr'⟩ := hmore
                    have HR' := Lib.hid hr'
                    clear hr' hc5 hcd hgp hgn
                    go_wp2_with fail
                    go_roundw
                    case rel => exact ⟨i + 1, by go_num, by omega, o', HR'.out, .inl rfl⟩
                    case measure => simp [RowKit.intOf]; omega
                  · have hn2' : decide ((o.needs.length : Int) < 2) = false := decide_eq_false (by omega)
                    go_wp2_with fail
                    go_roundw
                    case rel => exact ⟨i + 1, by go_num, by omega, o, HR5.out, .inl rfl⟩
                    case measure => simp [RowKit.intOf]; omega
                · have hg0' : ((g3 : Int) == 0) = false := by simpa using hg0
                  clear hg0
                  go_wp2_with fail
                  go_roundw
                  case rel => exact ⟨i + 1, by go_num, by omega, o, HR5.out, .inl rfl⟩
                  case measure => simp [RowKit.intOf]; omega
              · obtain rfl : i = L.length := by omega
                have hil' : decide ((L.length : Int) < (L.length : Int)) = false := decide_eq_false (by omega)
                have hc5 := HR.out.r7.cell
                have hb6 := below_alloc1 wr (.cells o.cells.toArray 52)
                have hr6 := HR.out.below hb6
                have hlit := rowIn_lit (enc := Off.cells) (e := 52) wr [o] o.cells.toArray wr.heap.size rfl (by simp [flatE]) 1 rfl
                have hown6 := hr6.r7.ms.rows
                have hsz6 : w1.heap.size ≤ (wr.alloc (.cells o.cells.toArray 52)).heap.size := hr6.r7.ms.keep.size
                have HR6 := Lib.hid hr6
                simp only [Off.cells] at hlit hown6 hsz6
                clear hr6 hb6
                go_wp2_with (at_builtin; refine wpList_append_row offT rfl (.tmp 96) (.tmp 98) rfl w1.heap.size _ _ L [o] rfl rfl hown6 hlit (by simp; omega) hsz6 ?_; intro v9 w9 hA9; obtain ⟨p9, c9, rfl⟩ := own_form hA9.own)
                have hms := HR6.out.r7.done hA9
                have hgl := HG.out.put HR6.out.good HR6.out.code
                simp only [List.length_append, List.length_singleton] at hms
                clear hA9 hown6 hlit
                go_wp2_with fail
                go_roundw
                case rel => exact ⟨k + 1, by omega, by go_num, L ++ [o], p9, c9, by simp, hgl, by simpa using hms⟩
                case measure => simp [RowKit.intOf]; omega
          · have hspos : decide (0 < (s : Int)) = true := decide_eq_true (by omega)
            have hlen : o.slots.length < s := hsl.resolve_left hs0
            have hb5 := below_alloc1 wr (.cells #[.int .i64 s] 3)
            have hr5 := HR.out.below hb5
            have hlit := rowIn_lit (enc := encI) (e := 3) wr [(s : Int)] #[.int .i64 s] wr.heap.size rfl rfl 1 rfl
            have hown5 := hr5.r7.sl
            have hbox := HR.out.r7.cell
            have hsz5 : w2.heap.size ≤ (wr.alloc (.cells #[.int .i64 s] 3)).heap.size := by have := (Array.getElem?_eq_some_iff.1 hr5.r7.box).1; omega
            have HR5 := Lib.hid hr5
            clear hr5 hsl
            go_wp2_with (at_builtin; refine wpList_append_row intT rfl (.tmp 43) (.tmp 45) rfl w2.heap.size _ _ o.slots [(s : Int)] rfl rfl hown5 hlit (by simp; omega) hsz5 ?_; intro v9 w9 hA9; obtain ⟨p9, c9, rfl⟩ := own_form hA9.own; have hbx9 := (hA9.grown.block ob (Array.getElem?_eq_some_iff.1 HR5.out.r7.box).1 (fun e => own_type hown5 HR5.out.r7.box (by decide) e.symm)).trans HR5.out.r7.box; have hc9 : ∀ j, w9.cell? ⟨ob, j, none⟩ = (#[.string o.code, .int .i64 o.credits, .int .i64 o.places, .slice o.sp o.slots.length o.sc, .slice o.np o.needs.length o.nc] : Array Value)[j]? := fun j => Lib.cell_of_heap hbx9 j; have hf9 : ∀ j, w9.frozen? ⟨ob, j, none⟩ = false := fun j => Lib.frozen_of_heap hbx9 j)
            simp only [List.length_append, List.length_singleton] at hA9
            have hr9 := HR5.out.r7.slot hA9
            have hro : RoundSt w1 w2.heap.size w.heap.size A n c k (.slice p L.length e) L ob { o with sp := p9, sc := c9, slots := o.slots ++ [(s : Int)] } (w9.setCell ⟨ob, 3, none⟩ (.slice p9 (o.slots.length + 1) c9)) :=
              ⟨hr9, { HR5.out.good with sl := by show (o.slots ++ [(s : Int)]).length ≤ 4; rw [List.length_append]; show o.slots.length + 1 ≤ 4; omega }, HR5.out.code⟩
            have cn2 := next_st w.heap.size A n c 2 (w9.setCell ⟨ob, 3, none⟩ (.slice p9 (o.slots.length + 1) c9)) (by omega) (by omega) hro.r7.ms.draw (hro.r7.ms.ints HI.out)
            refine cn2.mono ?_
            rintro _ w11 ⟨g2, rfl, hg2, hdw11, hs11⟩
            have hr11 := hro.next hs11 hdw11
            have hc11 := hr11.r7.cell
            have hsl11 := hr11.r7.sl
            have e1 : (o.slots ++ [(s : Int)]).length = o.slots.length + 1 := by simp
            simp only [e1] at hc11 hsl11
            obtain ⟨gs, rfl, hlast, hlc⟩ := own_last hsl11 rfl
            have HR11 := Lib.hid hr11
            clear hr11 hsl11 hro cn2 hr9 hA9 hbx9 hc9 hf9 hown5 hlit hbox hb5 hdw11 hs11
            have hgg : g2 = 0 ∨ g2 = 1 := by omega
            rcases hgg with rfl | rfl
            · go_wp2_with fail
              go_roundw
              case rel => exact ⟨0, rfl, by omega, _, HR11.out, .inl rfl⟩
              case measure => simp [RowKit.intOf, hs0]; omega
            · by_cases hs44 : s < 4
              · have hs4' : decide ((s : Int) < 4) = true := decide_eq_true (by omega)
                go_wp2_with fail
                go_roundw
                case rel => exact ⟨s + 1, by go_num, by omega, _, HR11.out, .inr (by show (o.slots ++ [(s : Int)]).length < s + 1; rw [e1]; omega)⟩
                case measure =>
                  have hs1 : ¬ ((s : Int) + 1 = 0) := by omega
                  simp [RowKit.intOf, hs0, hs1]; omega
              · have hs4' : decide ((s : Int) < 4) = false := decide_eq_false (by omega)
                go_wp2_with fail
                go_roundw
                case rel => exact ⟨0, rfl, by omega, _, HR11.out, .inl rfl⟩
                case measure => simp [RowKit.intOf, hs0]; omega
    · obtain rfl : k = 6 := by omega
      go_wp2_with fail
      go_ret
      have hm := HM.out
      refine ⟨_, L, rfl, rowIn_own (fun _ => rfl) (by decide) hm.rows, fun o ho => ⟨rowIn_own (fun _ => rfl) (by decide) (hm.ok o ho).1, rowIn_own (fun _ => rfl) (by decide) (hm.ok o ho).2⟩, HG.out, ?_⟩
      exact hB1.grown hm.keep hB1.size (fun q hq => by injection hq with hq; omega)
end Go.Proofs.YtbihaoadgcckhaaGreat
