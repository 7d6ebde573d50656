/- quadriviumlaw10.EntryKeys, walked. -/
import Derived.Test.YtnkbelbalaeieaaDoorKeysR
import Derived.Test.YtnkbelbalaeieaaDoorMm
import Derived.Test.YtnkbelbalaeieaaDoorSome
namespace Go.Proofs.YtnkbelbalaeieaaDoor
open Go Go.RowKit Go.Sort Go.Lib
attribute [local go_sem] Ent.cells
attribute [local go_sem ↓] run_max_mx run_min_mn

set_option maxHeartbeats 4000000 in
set_option maxRecDepth 100000 in
theorem keys_any (A : Option Addr) (n c : Nat) (a b c' d : Int) (w : World) (ha : I64 a) (hb : I64 b) (hc : I64 c') (hd : I64 d) (hi : IntsIn w.heap.size A n w) (ht : Tabs w) :
    Calls Tryd.prog 4 #[.slice A n c, .agg #[.int .i64 a, .int .i64 b, .int .i64 c', .int .i64 d]] w fun x w' => x = .returned (.bool true) ∧ RowKit.Below w.heap.size w w' := by
  go_enter Tryd.func4, Tryd.ntmps4
  go_wp2_with fail
  refine (sanity_any _ (ht.alloc _)).mono ?_
  rintro x w1 ⟨rfl, hb1⟩
  have hbw : RowKit.Below w.heap.size w w1 := (below_alloc1 w _).trans (hb1.mono (by simp))
  have hq : w1.heap[w.heap.size]? = some (.cells #[.int .i64 a, .int .i64 b, .int .i64 c', .int .i64 d] 24 (0, 0)) := by
    rw [hb1.block _ (by rw [size_alloc]; omega)]; exact heap_alloc_new w _
  have q0 := Lib.cell_of_heap hq 0
  have q1 := Lib.cell_of_heap hq 1
  have q2 := Lib.cell_of_heap hq 2
  have q3 := Lib.cell_of_heap hq 3
  clear hb1 ht
  go_wp2_with fail
  refine (some_any A n c a b c' d _ ha hb hc hd ((hi.below hbw).mono hbw.size)).mono ?_
  rintro x w2 ⟨v, L, rfl, hl, hLok, hes, hb2⟩
  have hbw2 : RowKit.Below w.heap.size w w2 := hbw.trans (hb2.mono hbw.size)
  clear hq q0 q1 q2 q3 hi
  obtain ⟨A', cp, rfl, hA2⟩ := hes.form
  have hcap : L.length ≤ cp := by
    rcases hes.2 with ⟨hv, h0⟩ | ⟨g, cap', cur, hv, _, _, hn, _⟩
    · omega
    · injection hv with _ _ h3; omega
  obtain ⟨N, hN⟩ : ∃ N, L.length = N := ⟨_, rfl⟩
  rw [hN] at hl hA2 hcap ⊢
  clear hes ha hb hc hd hbw hb2
  obtain ⟨m1, hm1, hm1'⟩ : ∃ m1 : Nat, mn (N : Int) 30 = m1 ∧ m1 ≤ N := by
    by_cases h : 30 < N
    · exact ⟨30, by unfold mn; rw [if_pos (by omega)]; rfl, by omega⟩
    · exact ⟨N, by unfold mn; rw [if_neg (by omega)], by omega⟩
  go_wp2_with fail
  go_loopw [20] (fun i wr => ∃ k : Nat, k ≤ N ∧ i = .int .i64 k ∧ RowKit.Below w2.heap.size w2 wr) (fun i _ => N - (intOf i).toNat)
  case atStart => exact ⟨0, Nat.zero_le _, rfl, Below.refl _ _⟩
  case round =>
    obtain ⟨k, hk, rfl, hb3⟩ := hrel
    by_cases hlt : k < N
    · obtain ⟨g, rfl, hg0, hg1, hat⟩ := hA2 (by omega)
      have hmk : k < L.length := by omega
      have he : L[k]? = some L[k] := List.getElem?_eq_getElem hmk
      have hok := hLok _ (List.getElem_mem hmk)
      generalize L[k] = e at he hok
      have hat1 : EntAt wr g (k * 15) e := (hat k e he).below hb3 hg1
      have hsz := hb3.size
      clear he hmk
      go_wp2_with (refine wpList_load_mid rfl 26 (.tmp 22) rfl _ _ rfl e.cells.toList _ hat1 Tryd.underlying26 rfl (by kernel_rfl) ?_)
      refine (key_any e hok _).mono ?_
      rintro x1 w4 ⟨rfl, hb4⟩
      have hab := (EntBox.new wr e).below hb4
      have hb24 : RowKit.Below w2.heap.size w2 w4 := (hb3.trans ((below_alloc1 wr _).mono hsz)).trans (hb4.mono (by rw [size_alloc]; omega))
      obtain ⟨x, hx⟩ : ∃ x : ByteArray, x = ⟨(keyV e).toArray⟩ := ⟨_, rfl⟩
      rw [← hx]
      have HX := Lib.hid hx
      clear hat1 hb4 hb3 hx
      generalize wr.heap.size = ab at hab
      go_upto_region 7 with fail
      refine keys_r7 ab e x _ _ hok hab HX.out ?_
      intro u26_ u27_ u28_ u29_ u30_ u31_ u32_ u33_ u34_ u35_ u36_ u37_ u38_ u39_ w5 hb5
      have hb25 := hb24.trans (hb5.mono hb24.size)
      replace hab := hab.below hb5
      have hsz5 := hb25.size
      clear hb5 hb24
      go_wp2_with fail
      go_loopw [47] (fun i wr => ∃ j : Nat, j ≤ m1 ∧ i = .int .i64 j ∧ RowKit.Below w5.heap.size w5 wr) (fun i _ => m1 - (intOf i).toNat)
      case atStart => exact ⟨0, Nat.zero_le _, rfl, Below.refl _ _⟩
      case round =>
        obtain ⟨j, hj, rfl, hb6⟩ := hrel
        by_cases hltj : j < m1
        · have hjl : j < L.length := by omega
          have he' : L[j]? = some L[j] := List.getElem?_eq_getElem hjl
          have hok' := hLok _ (List.getElem_mem hjl)
          generalize L[j] = e' at he' hok'
          have hat2 : EntAt wr g (j * 15) e' := ((hat j e' he').below hb25 hg1).below hb6 (by omega)
          have hsz6 := hb6.size
          clear he' hjl
          go_wp2_with (refine wpList_load_mid rfl 26 (.tmp 49) rfl _ _ rfl e'.cells.toList _ hat2 Tryd.underlying26 rfl (by kernel_rfl) ?_)
          refine (key_any e' hok' _).mono ?_
          rintro y1 w7 ⟨rfl, hb7⟩
          have hbb := (EntBox.new wr e').below hb7
          have hab7 := ((hab.below hb6).below (below_alloc1 wr (.cells e'.cells 26))).below hb7
          have hb57 : RowKit.Below w5.heap.size w5 w7 := (hb6.trans ((below_alloc1 wr _).mono hsz6)).trans (hb7.mono (by rw [size_alloc]; omega))
          obtain ⟨y, hy⟩ : ∃ y : ByteArray, y = ⟨(keyV e').toArray⟩ := ⟨_, rfl⟩
          rw [← hy]
          have HY := Lib.hid hy
          clear hat2 hb7 hb6 hy
          generalize wr.heap.size = bb at hbb
          go_upto_region 13 with fail
          refine keys_r13 ab bb e e' _ _ hab7 hbb ?_
          rintro u51_ u52_ u53_ u54_ u55_ u56_ u57_ u58_ u59_ u60_ u61_ u62_ u63_ u64_ u65_ u66_ u67_ u68_ u69_ u70_ u71_ wx rfl
          go_upto_region 14 with fail
          refine keys_r14 ab bb e e' _ _ hab7 hbb ?_
          intro u72_ u73_ u74_ u75_ u76_ u77_ u78_ u79_ u80_ u81_ u82_ u83_ u84_ u85_ u86_ u87_ u88_ u89_ u90_ w8 hb8
          have hb58 := hb57.trans (hb8.mono hb57.size)
          have hab8 := hab7.below hb8
          have hbb8 := hbb.below hb8
          clear hb57 hb8 hab7 hbb
          by_cases hr1 : chkV e = 0
          · by_cases hr2 : chkV e' = 0
            · have hk2 := Lib.hid (key_two HX.out HY.out hr1 hr2)
              have ex := (key_right HX.out hr1).1
              have ey := (key_right HY.out hr2).1
              have ex' : (x.toList = []) = False := by simpa using ex
              have ey' : (y.toList = []) = False := by simpa using ey
              clear hr1 hr2
              go_upto_region 17 with fail
              refine keys_r17 ab bb e e' x y _ _ hab8 hbb8 hk2.out.1 hk2.out.2 ?_
              intro u98_ u99_ u100_ u101_ u102_ u103_ u104_ u105_ u106_ u107_ u108_ u109_ u110_ u111_ u112_ u113_ u114_ u115_ u116_ u117_ u118_ u119_ u120_ u121_ w9 hb9
              have hb59 := hb58.trans (hb9.mono hb58.size)
              clear hb9 hb58 hab8 hbb8 ex ey ex' ey'
              go_wp2_with fail
              go_roundw
              case rel => exact ⟨j + 1, by omega, by go_num, hb59⟩
              case measure => simp [intOf]; omega
            · have ex := (key_right HX.out hr1).1
              have ey := key_bad HY.out hr2
              have ex' : (x.toList = []) = False := by simpa using ex
              clear hr1 hr2
              go_wp2_with fail
              go_roundw
              case rel => exact ⟨j + 1, by omega, by go_num, hb58⟩
              case measure => simp [intOf]; omega
          · have ex := key_bad HX.out hr1
            clear hr1
            go_wp2_with fail
            go_roundw
            case rel => exact ⟨j + 1, by omega, by go_num, hb58⟩
            case measure => simp [intOf]; omega
        · obtain rfl : j = m1 := by omega
          go_wp2_with fail
          go_roundw
          case rel => exact ⟨k + 1, by omega, by go_num, hb25.trans (hb6.mono hb25.size)⟩
          case measure => simp [intOf]; omega
    · obtain rfl : k = N := by omega
      go_wp2_with fail
      go_ret
      exact ⟨rfl, hbw2.trans (hb3.mono hbw2.size)⟩
end Go.Proofs.YtnkbelbalaeieaaDoor
