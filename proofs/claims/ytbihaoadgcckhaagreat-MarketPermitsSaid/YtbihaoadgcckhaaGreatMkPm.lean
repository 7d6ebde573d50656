/- The law MarketPermits: its blocks as pieces. -/
import Derived.Test.YtbihaoadgcckhaaGreatMkPp
import Derived.Test.YtbihaoadgcckhaaGreatMkSe
import Derived.Test.YtbihaoadgcckhaaGreatMkPa
import Derived.Test.YtbihaoadgcckhaaGreatMkDs
import Derived.Test.YtbihaoadgcckhaaGreatMkCs
import Derived.Deep.DeepCutAuto
import Derived.Deep.CutBlock
namespace Go.Proofs.YtbihaoadgcckhaaGreat
open Go Go.Proofs Go.RowKit Go.Maps Go.Sort Go.Lib
attribute [local go_sem] Seat.cells Off.cells Req.cells


set_option maxHeartbeats 4000000 in
set_option maxRecDepth 100000 in
theorem pm_b2 {s0 s1 s2 s3 s4 s5 s6 s7 s8 s9 s12 s13 s14 s15 s16 s17 s18 s19 s20 s21 s22 s23 s24 s25 s26 s27 s28 s29 s30 s31 s32 s33 s34 s35 s36 s37 s38 s39 s40 s41 s42 s43 s44 s45 s46 s47 s48 s49 s50 s51 s52 s53 s54 s55 s56 s60 s61 s62 s63 s64 s65 s66 s67 s68 s69 s70 s71 s72 s73 s74 s75 s76 s77 s78 s79 s80 s81 s82 s83 s84 s85 s86 s87 s88 s89 s90 s91 s92 s93 s94 s95 s96 s97 s98 s99 s100 s101 s102 s103 s104 s105 s106 s107 s108 s109 s110 s111 s112 s113 s114 s115 s116 s117 s118 s119 s120 s121 s122 s123 s124 s125 s126 s127 s128 s129 s130 s131 s132 s133 s134 s135 s136 s137 s138 s139 s140 s141 s142 s143 s144 s145 s146 s147 s148 s149 s150 s151 s152 s153 s154 s155 s156 s157 s158 s159 s160 s161 s162 s163 s164 s165 s166 s167 s168 s169 s170 s171 s172 s173 s174 s175 s176 s177 s178 s179 s180 s181 s182 s183 s184 s185 s186 s187 s188 s189 s190 s191 s192 s193 s194 s195 s196 s197 : Value} (ob : Nat) (pd : Option Addr) (cd : Nat) (D : List Seat) (o : Off) (W : World) (Q : Exit → Act → World → Prop) (hr : RowIn Seat.cells W (.slice pd D.length cd) D) (lD : D.length ≤ 1000) (ho : (ob < W.heap.size ∧ ∀ j, W.cell? ⟨ob, j, none⟩ = (#[.string o.code, .int .i64 o.credits, .int .i64 o.places, .slice o.sp o.slots.length o.sc, .slice o.np o.needs.length o.nc] : Array Value)[j]?))
    (hQ : ∀ (u13 u60 u61 u62 u63 u64 u65 u66 u67 u68 u69 u70 : Value)  (wx : World), RowKit.Below W.heap.size W wx → Q .normal ⟨List.toArray (s0 :: s1 :: s2 :: s3 :: s4 :: s5 :: s6 :: s7 :: s8 :: s9 :: .pointer (some ⟨ob, 0, none⟩) :: .int .i64 (takenF D o.code : Nat) :: s12 :: u13 :: s14 :: s15 :: s16 :: s17 :: s18 :: s19 :: s20 :: s21 :: s22 :: s23 :: s24 :: s25 :: s26 :: s27 :: s28 :: s29 :: s30 :: s31 :: s32 :: s33 :: s34 :: s35 :: s36 :: s37 :: s38 :: s39 :: s40 :: s41 :: s42 :: s43 :: s44 :: s45 :: s46 :: s47 :: s48 :: s49 :: s50 :: s51 :: s52 :: s53 :: s54 :: s55 :: s56 :: .slice pd D.length cd :: .int .i64 D.length :: .int .i64 D.length :: u60 :: u61 :: u62 :: u63 :: u64 :: u65 :: u66 :: u67 :: u68 :: u69 :: u70 :: s71 :: s72 :: s73 :: s74 :: s75 :: s76 :: s77 :: s78 :: s79 :: s80 :: s81 :: s82 :: s83 :: s84 :: s85 :: s86 :: s87 :: s88 :: s89 :: s90 :: s91 :: s92 :: s93 :: s94 :: s95 :: s96 :: s97 :: s98 :: s99 :: s100 :: s101 :: s102 :: s103 :: s104 :: s105 :: s106 :: s107 :: s108 :: s109 :: s110 :: s111 :: s112 :: s113 :: s114 :: s115 :: s116 :: s117 :: s118 :: s119 :: s120 :: s121 :: s122 :: s123 :: s124 :: s125 :: s126 :: s127 :: s128 :: s129 :: s130 :: s131 :: s132 :: s133 :: s134 :: s135 :: s136 :: s137 :: s138 :: s139 :: s140 :: s141 :: s142 :: s143 :: s144 :: s145 :: s146 :: s147 :: s148 :: s149 :: s150 :: s151 :: s152 :: s153 :: s154 :: s155 :: s156 :: s157 :: s158 :: s159 :: s160 :: s161 :: s162 :: s163 :: s164 :: s165 :: s166 :: s167 :: s168 :: s169 :: s170 :: s171 :: s172 :: s173 :: s174 :: s175 :: s176 :: s177 :: s178 :: s179 :: s180 :: s181 :: s182 :: s183 :: s184 :: s185 :: s186 :: s187 :: s188 :: s189 :: s190 :: s191 :: s192 :: s193 :: s194 :: s195 :: s196 :: s197 :: []), []⟩ wx) :
    (blockOf Tryz.f4 2).wp Tryz.prog Q ⟨List.toArray (s0 :: s1 :: s2 :: s3 :: s4 :: s5 :: s6 :: s7 :: s8 :: s9 :: .pointer (some ⟨ob, 0, none⟩) :: .int .i64 0 :: s12 :: s13 :: s14 :: s15 :: s16 :: s17 :: s18 :: s19 :: s20 :: s21 :: s22 :: s23 :: s24 :: s25 :: s26 :: s27 :: s28 :: s29 :: s30 :: s31 :: s32 :: s33 :: s34 :: s35 :: s36 :: s37 :: s38 :: s39 :: s40 :: s41 :: s42 :: s43 :: s44 :: s45 :: s46 :: s47 :: s48 :: s49 :: s50 :: s51 :: s52 :: s53 :: s54 :: s55 :: s56 :: .slice pd D.length cd :: .int .i64 D.length :: .int .i64 0 :: s60 :: s61 :: s62 :: s63 :: s64 :: s65 :: s66 :: s67 :: s68 :: s69 :: s70 :: s71 :: s72 :: s73 :: s74 :: s75 :: s76 :: s77 :: s78 :: s79 :: s80 :: s81 :: s82 :: s83 :: s84 :: s85 :: s86 :: s87 :: s88 :: s89 :: s90 :: s91 :: s92 :: s93 :: s94 :: s95 :: s96 :: s97 :: s98 :: s99 :: s100 :: s101 :: s102 :: s103 :: s104 :: s105 :: s106 :: s107 :: s108 :: s109 :: s110 :: s111 :: s112 :: s113 :: s114 :: s115 :: s116 :: s117 :: s118 :: s119 :: s120 :: s121 :: s122 :: s123 :: s124 :: s125 :: s126 :: s127 :: s128 :: s129 :: s130 :: s131 :: s132 :: s133 :: s134 :: s135 :: s136 :: s137 :: s138 :: s139 :: s140 :: s141 :: s142 :: s143 :: s144 :: s145 :: s146 :: s147 :: s148 :: s149 :: s150 :: s151 :: s152 :: s153 :: s154 :: s155 :: s156 :: s157 :: s158 :: s159 :: s160 :: s161 :: s162 :: s163 :: s164 :: s165 :: s166 :: s167 :: s168 :: s169 :: s170 :: s171 :: s172 :: s173 :: s174 :: s175 :: s176 :: s177 :: s178 :: s179 :: s180 :: s181 :: s182 :: s183 :: s184 :: s185 :: s186 :: s187 :: s188 :: s189 :: s190 :: s191 :: s192 :: s193 :: s194 :: s195 :: s196 :: s197 :: []), []⟩ W := by
  refine of_onlyN (K := Q .normal) ?_ (fun _ _ h => h)
  generalize Q .normal = K at hQ ⊢
  have HQ := Lib.hid hQ; clear hQ
  conv => arg 2; whnf
  have HR := Lib.hid hr
  clear hr
  go_wp2_with fail
  go_loopw [11, 59] (fun v i wr => ∃ k n : Nat, k ≤ D.length ∧ n ≤ k ∧ v = .int .i64 n ∧ i = .int .i64 k ∧ Hid (n = takenF (D.take k) o.code) ∧ RowKit.Below W.heap.size W wr) (fun _ i _ => D.length - (RowKit.intOf i).toNat)
  case atStart => exact ⟨0, 0, Nat.zero_le _, Nat.le_refl _, rfl, rfl, Lib.hid rfl, Below.refl _ _⟩
  case round =>
    obtain ⟨k, n, hk, hnk, rfl, rfl, HI, hbr⟩ := hrel
    by_cases hlt : k < D.length
    · obtain ⟨g, of, c', hv, _, hgl, hx⟩ := HR.out.at_ (k := 2) (fun _ => rfl) (by omega)
      have e1 := (Value.slice.inj hv).1
      subst e1
      have hz := List.getElem?_eq_getElem hlt
      have hat := hx k _ hz
      have HTK := Lib.hid (take_one hz)
      generalize D[k] = x at hz hat HTK
      obtain ⟨xs, xc⟩ := x
      have h0 : wr.cell? ⟨g, of + k * 2, none⟩ = some (.int .i64 xs) := by rw [hbr.cell (p := ⟨g, of + k * 2, none⟩) hgl]; exact hat 0 _ rfl
      have h1 : wr.cell? ⟨g, of + k * 2 + 1, none⟩ = some (.string xc) := by rw [hbr.cell (p := ⟨g, of + k * 2 + 1, none⟩) hgl]; exact hat 1 _ rfl
      have hb4 : RowKit.Below W.heap.size W (wr.alloc (.cells #[.int .i64 xs, .string xc] 54)) := hbr.alloc hbr.size _
      have hbx : ∀ j, (wr.alloc (.cells #[.int .i64 xs, .string xc] 54)).cell? ⟨wr.heap.size, j, none⟩ = (#[.int .i64 xs, .string xc] : Array Value)[j]? := fun j => Lib.cell_of_heap (heap_alloc_new wr _) j
      have ho4 : (wr.alloc (.cells #[.int .i64 xs, .string xc] 54)).cell? ⟨ob, 0, none⟩ = some (.string o.code) := (hb4.cell (p := ⟨ob, 0, none⟩) ho.1).trans (ho.2 0)
      have hwrap : IntKind.i64.wrap ((n : Int) + 1) = ((n + 1 : Nat) : Int) := by rw [IntWalk.i64_in _ (by omega)]; omega
      have hlt2 : (k : Int) < (D.length : Int) := by omega
      clear hv hx hz hat
      generalize hG : (xc.toList == o.code.toList) = g2
      have HT : Hid (takenF (D.take (k + 1)) o.code = n + if g2 = true then 1 else 0) := Lib.hid (by
        rw [HTK.out, takenF_snoc, ← HI.out, ← hG]
        congr 1
        by_cases h : xc.toList = o.code.toList <;> simp [h])
      cases g2
      · go_wp2_with fail
        go_roundw
        case rel => exact ⟨k + 1, n, by omega, by omega, rfl, by go_num, Lib.hid (by rw [HT.out]; simp), hb4⟩
        case measure => simp [RowKit.intOf]; omega
      · go_wp2_with fail
        go_roundw
        case rel => exact ⟨k + 1, n + 1, by omega, by omega, rfl, by go_num, Lib.hid (by rw [HT.out]; simp), hb4⟩
        case measure => simp [RowKit.intOf]; omega
    · obtain rfl : k = D.length := by omega
      have hk2 := HI.out
      rw [List.take_length] at hk2
      have HK2 := Lib.hid hk2
      clear hk2
      go_wp2_with fail
      have e := HK2.out
      subst e
      exact HQ.out _ _ _ _ _ _ _ _ _ _ _ _ _ hbr

set_option maxHeartbeats 4000000 in
set_option maxRecDepth 100000 in
theorem pm_r16 {s0 s1 s2 s3 s5 s6 s7 s9 s12 s13 s14 s15 s16 s17 s18 s19 s20 s21 s22 s23 s24 s25 s26 s27 s28 s29 s30 s31 s32 s33 s34 s35 s36 s37 s38 s39 s40 s41 s42 s43 s44 s45 s46 s47 s48 s49 s50 s51 s52 s53 s54 s55 s56 s57 s58 s59 s60 s61 s62 s63 s64 s65 s66 s67 s68 s69 s70 s71 s72 s73 s74 s75 s76 s77 s78 s79 s80 s81 s82 s83 s84 s85 s86 s87 s88 s89 s90 s91 s92 s93 s94 s95 s96 s97 s98 s99 s100 s101 s102 s103 s104 s105 s106 s107 s108 s109 s110 s111 s112 s113 s114 s115 s116 s117 s118 s119 s120 s121 s122 s123 s124 s125 s126 s127 s128 s129 s130 s131 s132 s133 s134 s135 s136 s137 s138 s139 s140 s141 s142 s143 s144 s145 s146 s147 s148 s149 s150 s151 s152 s153 s154 s155 s156 s157 s158 s159 s160 s161 s162 s163 s164 s165 s166 s167 s168 s169 s170 s171 s172 s173 s174 s175 s176 s177 s178 s179 s180 s181 s182 s183 s184 s185 s186 s187 s188 s189 s190 s191 s192 s193 s194 s195 s196 s197 : Value} (db ob n : Nat) (pd pw po : Option Addr) (cd cw co : Nat) (mv : Value) (D Wt : List Seat) (L : List Off) (M : List Seat) (o : Off) (W : World) (Q : Exit → Act → World → Prop) (hc : CatIn W (.slice po L.length co) mv L M) (hg : GoodL 6 L) (hm : o ∈ L) (hd : DealIn W (.agg #[.slice pd D.length cd, .slice pw Wt.length cw]) ⟨D, Wt⟩) (hdb : (db < W.heap.size ∧ ∀ j, W.cell? ⟨db, j, none⟩ = (#[.slice pd D.length cd, .slice pw Wt.length cw] : Array Value)[j]?)) (ho : (ob < W.heap.size ∧ ∀ j, W.cell? ⟨ob, j, none⟩ = (#[.string o.code, .int .i64 o.credits, .int .i64 o.places, .slice o.sp o.slots.length o.sc, .slice o.np o.needs.length o.nc] : Array Value)[j]?)) (hn : (n : Int) ≤ o.places) (hlf : leftP L ⟨D, Wt⟩ o.code = o.places - n)
    (hQ : ∀ (u71 u72 u73 u74 u75 u76 u77 u78 u79 u80 u81 u82 u83 u84 u85 : Value)  (wx : World), RowKit.Below W.heap.size W wx → Q .normal ⟨List.toArray (s0 :: s1 :: s2 :: s3 :: .slice po L.length co :: s5 :: s6 :: s7 :: .pointer (some ⟨db, 0, none⟩) :: s9 :: .pointer (some ⟨ob, 0, none⟩) :: .int .i64 n :: s12 :: s13 :: s14 :: s15 :: s16 :: s17 :: s18 :: s19 :: s20 :: s21 :: s22 :: s23 :: s24 :: s25 :: s26 :: s27 :: s28 :: s29 :: s30 :: s31 :: s32 :: s33 :: s34 :: s35 :: s36 :: s37 :: s38 :: s39 :: s40 :: s41 :: s42 :: s43 :: s44 :: s45 :: s46 :: s47 :: s48 :: s49 :: s50 :: s51 :: s52 :: s53 :: s54 :: s55 :: s56 :: s57 :: s58 :: s59 :: s60 :: s61 :: s62 :: s63 :: s64 :: s65 :: s66 :: s67 :: s68 :: s69 :: s70 :: u71 :: u72 :: u73 :: u74 :: u75 :: u76 :: u77 :: u78 :: u79 :: u80 :: u81 :: u82 :: u83 :: u84 :: u85 :: .bool false :: s87 :: s88 :: s89 :: s90 :: s91 :: s92 :: s93 :: s94 :: s95 :: s96 :: s97 :: s98 :: s99 :: s100 :: s101 :: s102 :: s103 :: s104 :: s105 :: s106 :: s107 :: s108 :: s109 :: s110 :: s111 :: s112 :: s113 :: s114 :: s115 :: s116 :: s117 :: s118 :: s119 :: s120 :: s121 :: s122 :: s123 :: s124 :: s125 :: s126 :: s127 :: s128 :: s129 :: s130 :: s131 :: s132 :: s133 :: s134 :: s135 :: s136 :: s137 :: s138 :: s139 :: s140 :: s141 :: s142 :: s143 :: s144 :: s145 :: s146 :: s147 :: s148 :: s149 :: s150 :: s151 :: s152 :: s153 :: s154 :: s155 :: s156 :: s157 :: s158 :: s159 :: s160 :: s161 :: s162 :: s163 :: s164 :: s165 :: s166 :: s167 :: s168 :: s169 :: s170 :: s171 :: s172 :: s173 :: s174 :: s175 :: s176 :: s177 :: s178 :: s179 :: s180 :: s181 :: s182 :: s183 :: s184 :: s185 :: s186 :: s187 :: s188 :: s189 :: s190 :: s191 :: s192 :: s193 :: s194 :: s195 :: s196 :: s197 :: []), []⟩ wx) :
    (regionOf Tryz.f4 16).wp Tryz.prog Q ⟨List.toArray (s0 :: s1 :: s2 :: s3 :: .slice po L.length co :: s5 :: s6 :: s7 :: .pointer (some ⟨db, 0, none⟩) :: s9 :: .pointer (some ⟨ob, 0, none⟩) :: .int .i64 n :: s12 :: s13 :: s14 :: s15 :: s16 :: s17 :: s18 :: s19 :: s20 :: s21 :: s22 :: s23 :: s24 :: s25 :: s26 :: s27 :: s28 :: s29 :: s30 :: s31 :: s32 :: s33 :: s34 :: s35 :: s36 :: s37 :: s38 :: s39 :: s40 :: s41 :: s42 :: s43 :: s44 :: s45 :: s46 :: s47 :: s48 :: s49 :: s50 :: s51 :: s52 :: s53 :: s54 :: s55 :: s56 :: s57 :: s58 :: s59 :: s60 :: s61 :: s62 :: s63 :: s64 :: s65 :: s66 :: s67 :: s68 :: s69 :: s70 :: s71 :: s72 :: s73 :: s74 :: s75 :: s76 :: s77 :: s78 :: s79 :: s80 :: s81 :: s82 :: s83 :: s84 :: s85 :: s86 :: s87 :: s88 :: s89 :: s90 :: s91 :: s92 :: s93 :: s94 :: s95 :: s96 :: s97 :: s98 :: s99 :: s100 :: s101 :: s102 :: s103 :: s104 :: s105 :: s106 :: s107 :: s108 :: s109 :: s110 :: s111 :: s112 :: s113 :: s114 :: s115 :: s116 :: s117 :: s118 :: s119 :: s120 :: s121 :: s122 :: s123 :: s124 :: s125 :: s126 :: s127 :: s128 :: s129 :: s130 :: s131 :: s132 :: s133 :: s134 :: s135 :: s136 :: s137 :: s138 :: s139 :: s140 :: s141 :: s142 :: s143 :: s144 :: s145 :: s146 :: s147 :: s148 :: s149 :: s150 :: s151 :: s152 :: s153 :: s154 :: s155 :: s156 :: s157 :: s158 :: s159 :: s160 :: s161 :: s162 :: s163 :: s164 :: s165 :: s166 :: s167 :: s168 :: s169 :: s170 :: s171 :: s172 :: s173 :: s174 :: s175 :: s176 :: s177 :: s178 :: s179 :: s180 :: s181 :: s182 :: s183 :: s184 :: s185 :: s186 :: s187 :: s188 :: s189 :: s190 :: s191 :: s192 :: s193 :: s194 :: s195 :: s196 :: s197 :: []), []⟩ W := by
  refine of_onlyN (K := Q .normal) ?_ (fun _ _ h => h)
  generalize Q .normal = K at hQ ⊢
  have HQ := Lib.hid hQ; clear hQ
  conv => arg 2; whnf
  have keepS : ∀ w', RowKit.Below W.heap.size W w' → RowKit.Below W.heap.size W w' ∧ (∀ j, w'.cell? ⟨db, j, none⟩ = (#[.slice pd D.length cd, .slice pw Wt.length cw] : Array Value)[j]?) ∧ (∀ j, w'.cell? ⟨ob, j, none⟩ = (#[.string o.code, .int .i64 o.credits, .int .i64 o.places, .slice o.sp o.slots.length o.sc, .slice o.np o.needs.length o.nc] : Array Value)[j]?) := fun w' hb => ⟨hb, fun j => (hb.cell (p := ⟨db, j, none⟩) hdb.1).trans (hdb.2 j), fun j => (hb.cell (p := ⟨ob, j, none⟩) ho.1).trans (ho.2 j)⟩
  have hS0 := keepS _ (Below.refl W.heap.size W).drew
  have hp0 := (hg.1 o hm).p0
  have hp1 := (hg.1 o hm).p1
  have HL := Lib.hid (fun (w' : World) (hb : RowKit.Below W.heap.size W w') => left_any (.slice po L.length co) (.agg #[.slice pd D.length cd, .slice pw Wt.length cw]) L ⟨D, Wt⟩ o.code w' (hc.below hb).off hc.lo (fun x hx => ⟨((hc.below hb).ok x hx).1, ((hc.below hb).ok x hx).2, by have := (hg.1 x hx).nd; omega⟩) (hd.below hb) (by rw [good_get hg hm]; omega))
  have HLF := Lib.hid hlf
  clear hc hg hd hlf hm
  have w1 : IntKind.i64.wrap (o.places - (n : Int)) = o.places - (n : Int) := IntWalk.i64_in _ (by omega)
  have t1 : decide (o.places < (n : Int)) = false := decide_eq_false (by omega)
  go_region_held3 (fun w' => RowKit.Below W.heap.size W w' ∧ (∀ j, w'.cell? ⟨db, j, none⟩ = (#[.slice pd D.length cd, .slice pw Wt.length cw] : Array Value)[j]?) ∧ (∀ j, w'.cell? ⟨ob, j, none⟩ = (#[.string o.code, .int .i64 o.credits, .int .i64 o.places, .slice o.sp o.slots.length o.sc, .slice o.np o.needs.length o.nc] : Array Value)[j]?)) (first | exact hS0 | assumption)
    (first | (go_at_call 14; refine (HL.out _ (Below.refl W.heap.size W).drew).mono ?_; rintro _ w2 ⟨rfl, hb2⟩; have hS2 := keepS w2 (below_next (Below.refl _ _).drew hb2); rw [HLF.out]))
  exact HQ.out _ _ _ _ _ _ _ _ _ _ _ _ _ _ _ _ hS2.1

set_option maxHeartbeats 4000000 in
set_option maxRecDepth 100000 in
theorem pm_b0 {s0 s1 s2 s3 s5 s6 s7 s9 s10 s11 s12 s13 s14 s15 s16 s17 s18 s19 s20 s21 s22 s23 s24 s25 s26 s27 s28 s29 s30 s31 s32 s33 s34 s35 s36 s37 s38 s39 s40 s41 s42 s43 s44 s45 s46 s47 s48 s49 s53 s54 s55 s56 s57 s58 s59 s60 s61 s62 s63 s64 s65 s66 s67 s68 s69 s70 s71 s72 s73 s74 s75 s76 s77 s78 s79 s80 s81 s82 s83 s84 s85 s86 s87 s88 s89 s90 s91 s92 s93 s94 s95 s96 s97 s98 s99 s100 s101 s102 s103 s104 s105 s106 s107 s108 s109 s110 s111 s112 s113 s114 s115 s116 s117 s118 s119 s120 s121 s122 s123 s124 s125 s126 s127 s128 s129 s130 s131 s132 s133 s134 s135 s136 s137 s138 s139 s140 s141 s142 s143 s144 s145 s146 s147 s148 s149 s150 s151 s152 s153 s154 s155 s156 s157 s158 s159 s160 s161 s162 s163 s164 s165 s166 s167 s168 s169 s170 s171 s172 s173 s174 s175 s176 s177 s178 s179 s180 s181 s182 s183 s184 s185 s186 s187 s188 s189 s190 s191 s192 s193 s194 s195 s196 s197 : Value} (db : Nat) (pd pw po : Option Addr) (cd cw co : Nat) (mv : Value) (D Wt : List Seat) (L : List Off) (M : List Seat) (most : Int) (W : World) (Q : Exit → Act → World → Prop) (hc : CatIn W (.slice po L.length co) mv L M) (hg : GoodL 6 L) (hd : DealIn W (.agg #[.slice pd D.length cd, .slice pw Wt.length cw]) ⟨D, Wt⟩) (hdb : (db < W.heap.size ∧ ∀ j, W.cell? ⟨db, j, none⟩ = (#[.slice pd D.length cd, .slice pw Wt.length cw] : Array Value)[j]?)) (lD : D.length ≤ 1000) (hok : OkS L M most D)
    (hQ : ∀ (u2 u10 u11 u13 u52 u53 u54 u55 u56 u57 u58 u59 u60 u61 u62 u63 u64 u65 u66 u67 u68 u69 u70 u71 u72 u73 u74 u75 u76 u77 u78 u79 u80 u81 u82 u83 u84 u85 u86 u87 : Value)  (wx : World), RowKit.Below W.heap.size W wx → Q .normal ⟨List.toArray (s0 :: s1 :: u2 :: s3 :: .slice po L.length co :: s5 :: s6 :: s7 :: .pointer (some ⟨db, 0, none⟩) :: s9 :: u10 :: u11 :: s12 :: u13 :: s14 :: s15 :: s16 :: s17 :: s18 :: s19 :: s20 :: s21 :: s22 :: s23 :: s24 :: s25 :: s26 :: s27 :: s28 :: s29 :: s30 :: s31 :: s32 :: s33 :: s34 :: s35 :: s36 :: s37 :: s38 :: s39 :: s40 :: s41 :: s42 :: s43 :: s44 :: s45 :: s46 :: s47 :: s48 :: s49 :: .slice po L.length co :: .int .i64 L.length :: u52 :: u53 :: u54 :: u55 :: u56 :: u57 :: u58 :: u59 :: u60 :: u61 :: u62 :: u63 :: u64 :: u65 :: u66 :: u67 :: u68 :: u69 :: u70 :: u71 :: u72 :: u73 :: u74 :: u75 :: u76 :: u77 :: u78 :: u79 :: u80 :: u81 :: u82 :: u83 :: u84 :: u85 :: u86 :: u87 :: s88 :: s89 :: s90 :: s91 :: s92 :: s93 :: s94 :: s95 :: s96 :: s97 :: s98 :: s99 :: s100 :: s101 :: s102 :: s103 :: s104 :: s105 :: s106 :: s107 :: s108 :: s109 :: s110 :: s111 :: s112 :: s113 :: s114 :: s115 :: s116 :: s117 :: s118 :: s119 :: s120 :: s121 :: s122 :: s123 :: s124 :: s125 :: s126 :: s127 :: s128 :: s129 :: s130 :: s131 :: s132 :: s133 :: s134 :: s135 :: s136 :: s137 :: s138 :: s139 :: s140 :: s141 :: s142 :: s143 :: s144 :: s145 :: s146 :: s147 :: s148 :: s149 :: s150 :: s151 :: s152 :: s153 :: s154 :: s155 :: s156 :: s157 :: s158 :: s159 :: s160 :: s161 :: s162 :: s163 :: s164 :: s165 :: s166 :: s167 :: s168 :: s169 :: s170 :: s171 :: s172 :: s173 :: s174 :: s175 :: s176 :: s177 :: s178 :: s179 :: s180 :: s181 :: s182 :: s183 :: s184 :: s185 :: s186 :: s187 :: s188 :: s189 :: s190 :: s191 :: s192 :: s193 :: s194 :: s195 :: s196 :: s197 :: []), []⟩ wx) :
    (blockOf Tryz.f4 0).wp Tryz.prog Q ⟨List.toArray (s0 :: s1 :: s2 :: s3 :: .slice po L.length co :: s5 :: s6 :: s7 :: .pointer (some ⟨db, 0, none⟩) :: s9 :: s10 :: s11 :: s12 :: s13 :: s14 :: s15 :: s16 :: s17 :: s18 :: s19 :: s20 :: s21 :: s22 :: s23 :: s24 :: s25 :: s26 :: s27 :: s28 :: s29 :: s30 :: s31 :: s32 :: s33 :: s34 :: s35 :: s36 :: s37 :: s38 :: s39 :: s40 :: s41 :: s42 :: s43 :: s44 :: s45 :: s46 :: s47 :: s48 :: s49 :: .slice po L.length co :: .int .i64 L.length :: .int .i64 0 :: s53 :: s54 :: s55 :: s56 :: s57 :: s58 :: s59 :: s60 :: s61 :: s62 :: s63 :: s64 :: s65 :: s66 :: s67 :: s68 :: s69 :: s70 :: s71 :: s72 :: s73 :: s74 :: s75 :: s76 :: s77 :: s78 :: s79 :: s80 :: s81 :: s82 :: s83 :: s84 :: s85 :: s86 :: s87 :: s88 :: s89 :: s90 :: s91 :: s92 :: s93 :: s94 :: s95 :: s96 :: s97 :: s98 :: s99 :: s100 :: s101 :: s102 :: s103 :: s104 :: s105 :: s106 :: s107 :: s108 :: s109 :: s110 :: s111 :: s112 :: s113 :: s114 :: s115 :: s116 :: s117 :: s118 :: s119 :: s120 :: s121 :: s122 :: s123 :: s124 :: s125 :: s126 :: s127 :: s128 :: s129 :: s130 :: s131 :: s132 :: s133 :: s134 :: s135 :: s136 :: s137 :: s138 :: s139 :: s140 :: s141 :: s142 :: s143 :: s144 :: s145 :: s146 :: s147 :: s148 :: s149 :: s150 :: s151 :: s152 :: s153 :: s154 :: s155 :: s156 :: s157 :: s158 :: s159 :: s160 :: s161 :: s162 :: s163 :: s164 :: s165 :: s166 :: s167 :: s168 :: s169 :: s170 :: s171 :: s172 :: s173 :: s174 :: s175 :: s176 :: s177 :: s178 :: s179 :: s180 :: s181 :: s182 :: s183 :: s184 :: s185 :: s186 :: s187 :: s188 :: s189 :: s190 :: s191 :: s192 :: s193 :: s194 :: s195 :: s196 :: s197 :: []), []⟩ W := by
  refine of_onlyN (K := Q .normal) ?_ (fun _ _ h => h)
  generalize Q .normal = K at hQ ⊢
  have HQ := Lib.hid hQ; clear hQ
  conv => arg 2; whnf
  have HC := Lib.hid hc
  have HG := Lib.hid hg
  have HD := Lib.hid hd
  have HK := Lib.hid hok
  clear hc hg hd hok
  have hrD : RowIn Seat.cells W (.slice pd D.length cd) D := by
    obtain ⟨p', c', q', e', h1, h2, h3⟩ := HD.out.val
    injection h1 with h1
    simp only [Array.mk.injEq, List.cons.injEq, and_true] at h1
    rw [h1.1]; exact h2
  have HR := Lib.hid hrD
  clear hrD
  have lL : L.length ≤ 1000000 := HC.out.lo
  go_wp2_with fail
  go_loopw [52] (fun i wr => ∃ k : Nat, k ≤ L.length ∧ i = .int .i64 k ∧ RowKit.Below W.heap.size W wr) (fun i _ => L.length - (RowKit.intOf i).toNat)
  case atStart => exact ⟨0, Nat.zero_le _, rfl, Below.refl _ _⟩
  case round =>
    obtain ⟨k, hk, rfl, hbr⟩ := hrel
    by_cases hlt : k < L.length
    · obtain ⟨g, of, c', hv, _, hgl, hx⟩ := HC.out.off.at_ (k := 5) (fun _ => rfl) (by omega)
      have e1 := (Value.slice.inj hv).1
      subst e1
      have hz := List.getElem?_eq_getElem hlt
      have hat := hx k _ hz
      have HM := Lib.hid (List.getElem_mem hlt)
      generalize L[k] = o at hz hat HM
      have hatk : wr.rangeAt g (of + k * 5) o.cells := fun j v hj => by rw [hbr.cell (p := ⟨g, of + k * 5 + j, none⟩) hgl]; exact hat j v hj
      have hb4 : RowKit.Below W.heap.size W (wr.alloc (.cells #[.string o.code, .int .i64 o.credits, .int .i64 o.places, .slice o.sp o.slots.length o.sc, .slice o.np o.needs.length o.nc] 52)) := hbr.alloc hbr.size _
      have hbx : ∀ j, (wr.alloc (.cells #[.string o.code, .int .i64 o.credits, .int .i64 o.places, .slice o.sp o.slots.length o.sc, .slice o.np o.needs.length o.nc] 52)).cell? ⟨wr.heap.size, j, none⟩ = (#[.string o.code, .int .i64 o.credits, .int .i64 o.places, .slice o.sp o.slots.length o.sc, .slice o.np o.needs.length o.nc] : Array Value)[j]? := fun j => Lib.cell_of_heap (heap_alloc_new wr _) j
      have hbl : wr.heap.size < (wr.alloc (.cells #[.string o.code, .int .i64 o.credits, .int .i64 o.places, .slice o.sp o.slots.length o.sc, .slice o.np o.needs.length o.nc] 52)).heap.size := by simp
      have i1 : (0 : Int) ≤ (k : Int) := by omega
      have i2 : (k : Int) < (L.length : Int) := by omega
      have hd0 : (wr.alloc (.cells #[.string o.code, .int .i64 o.credits, .int .i64 o.places, .slice o.sp o.slots.length o.sc, .slice o.np o.needs.length o.nc] 52)).cell? ⟨db, 0, none⟩ = some (.slice pd D.length cd) := (hb4.cell (p := ⟨db, 0, none⟩) hdb.1).trans (hdb.2 0)
      clear hv hx hz hat
      go_upto_block 2 with ((with_reducible refine wpList_load_mid (op := ⟨some 55, _, _, _, _, _⟩) ?_ 52 (.tmp 54) ?_ g (of + k * 5) ?_ o.cells _ ?_ Tryz.underlying52 ?_ ?_ ?_); rfl; rfl; rfl; exact hatk; rfl; kernel_rfl)
      generalize wr.heap.size = ob at hbx hbl ⊢
      generalize wr.alloc _ = w4 at hb4 hbx hbl hd0 ⊢
      clear hatk i1
      refine pm_b2 ob pd cd D o w4 _ (HR.out.below hb4) lD ⟨hbl, hbx⟩ ?_
      intro u13 u60 u61 u62 u63 u64 u65 u66 u67 u68 u69 u70 w5 hb5
      have hb6 := below_next hb4 hb5
      have hbx5 : ob < w5.heap.size ∧ ∀ j, w5.cell? ⟨ob, j, none⟩ = (#[.string o.code, .int .i64 o.credits, .int .i64 o.places, .slice o.sp o.slots.length o.sc, .slice o.np o.needs.length o.nc] : Array Value)[j]? := ⟨Nat.lt_of_lt_of_le hbl hb5.size, fun j => (hb5.cell (p := ⟨ob, j, none⟩) hbl).trans (hbx j)⟩
      have hdb5 : db < w5.heap.size ∧ ∀ j, w5.cell? ⟨db, j, none⟩ = (#[.slice pd D.length cd, .slice pw Wt.length cw] : Array Value)[j]? := ⟨Nat.lt_of_lt_of_le hdb.1 hb6.size, fun j => (hb6.cell (p := ⟨db, j, none⟩) hdb.1).trans (hdb.2 j)⟩
      clear hbx hbl hb4 hb5 hd0 hbr
      obtain ⟨hn, hlf⟩ := pm_left HG.out HM.out Wt HK.out
      go_upto_region 16 with fail
      refine pm_r16 db ob (takenF D o.code) pd pw _ cd cw co mv D Wt L M o w5 _ (HC.out.below hb6) HG.out HM.out (HD.out.below hb6) hdb5 hbx5 hn hlf ?_
      intro u71 u72 u73 u74 u75 u76 u77 u78 u79 u80 u81 u82 u83 u84 u85 w6 hb7
      have hb8 := below_next hb6 hb7
      clear hn hlf hbx5 hdb5 hb6 hb7
      go_wp2_with fail
      go_roundw
      case rel => exact ⟨k + 1, by omega, by go_num, hb8⟩
      case measure => simp [RowKit.intOf]; omega
    · obtain rfl : k = L.length := by omega
      go_wp2_with fail
      exact HQ.out _ _ _ _ _ _ _ _ _ _ _ _ _ _ _ _ _ _ _ _ _ _ _ _ _ _ _ _ _ _ _ _ _ _ _ _ _ _ _ _ _ hbr

set_option maxHeartbeats 4000000 in
set_option maxRecDepth 100000 in
theorem pm_r28 {s0 s1 s2 s3 s4 s6 s7 s8 s9 s10 s11 s12 s13 s15 s16 s17 s19 s21 s22 s23 s24 s25 s26 s27 s28 s29 s30 s31 s32 s33 s34 s35 s36 s37 s38 s39 s40 s41 s42 s43 s44 s45 s46 s47 s48 s49 s50 s51 s52 s53 s54 s55 s56 s57 s58 s59 s60 s61 s62 s63 s64 s65 s66 s67 s68 s69 s70 s71 s72 s73 s74 s75 s76 s77 s78 s79 s80 s81 s82 s83 s84 s85 s86 s87 s88 s89 s90 s91 s92 s93 s94 s95 s96 s97 s98 s99 s100 s101 s102 s103 s104 s105 s106 s107 s108 s109 s110 s111 s112 s113 s114 s115 s116 s117 s118 s119 s120 s121 s122 s123 s124 s125 s126 s127 s128 s129 s130 s131 s132 s133 s134 s135 s136 s137 s138 s139 s140 s141 s142 s143 s144 s145 s146 s147 s148 s149 s150 s151 s152 s153 s154 s155 s156 s157 s158 s159 s160 s161 s162 s163 s164 s165 s166 s167 s168 s169 s170 s171 s172 s173 s174 s175 s176 s177 s178 s179 s180 s181 s182 s183 s184 s185 s186 s187 s188 s189 s190 s191 s192 s193 s194 s195 s196 s197 : Value} (mv : Value) (st : Int) (c : ByteArray) (M : List Seat) (W : World) (Q : Exit → Act → World → Prop) (hm : RowIn Seat.cells W mv M) (lm : M.length ≤ 1000000) (hin : (⟨st, c⟩ : Seat) ∈ M)
    (hQ : ∀ (u108 u109 u110 u111 u112 u113 u114 u115 u116 : Value)  (wx : World), RowKit.Below W.heap.size W wx → Q .normal ⟨List.toArray (s0 :: s1 :: s2 :: s3 :: s4 :: mv :: s6 :: s7 :: s8 :: s9 :: s10 :: s11 :: s12 :: s13 :: .int .i64 st :: s15 :: s16 :: s17 :: .string c :: s19 :: .bool true :: s21 :: s22 :: s23 :: s24 :: s25 :: s26 :: s27 :: s28 :: s29 :: s30 :: s31 :: s32 :: s33 :: s34 :: s35 :: s36 :: s37 :: s38 :: s39 :: s40 :: s41 :: s42 :: s43 :: s44 :: s45 :: s46 :: s47 :: s48 :: s49 :: s50 :: s51 :: s52 :: s53 :: s54 :: s55 :: s56 :: s57 :: s58 :: s59 :: s60 :: s61 :: s62 :: s63 :: s64 :: s65 :: s66 :: s67 :: s68 :: s69 :: s70 :: s71 :: s72 :: s73 :: s74 :: s75 :: s76 :: s77 :: s78 :: s79 :: s80 :: s81 :: s82 :: s83 :: s84 :: s85 :: s86 :: s87 :: s88 :: s89 :: s90 :: s91 :: s92 :: s93 :: s94 :: s95 :: s96 :: s97 :: s98 :: s99 :: s100 :: s101 :: s102 :: s103 :: s104 :: s105 :: s106 :: s107 :: u108 :: u109 :: u110 :: u111 :: u112 :: u113 :: u114 :: u115 :: u116 :: .bool false :: s118 :: s119 :: s120 :: s121 :: s122 :: s123 :: s124 :: s125 :: s126 :: s127 :: s128 :: s129 :: s130 :: s131 :: s132 :: s133 :: s134 :: s135 :: s136 :: s137 :: s138 :: s139 :: s140 :: s141 :: s142 :: s143 :: s144 :: s145 :: s146 :: s147 :: s148 :: s149 :: s150 :: s151 :: s152 :: s153 :: s154 :: s155 :: s156 :: s157 :: s158 :: s159 :: s160 :: s161 :: s162 :: s163 :: s164 :: s165 :: s166 :: s167 :: s168 :: s169 :: s170 :: s171 :: s172 :: s173 :: s174 :: s175 :: s176 :: s177 :: s178 :: s179 :: s180 :: s181 :: s182 :: s183 :: s184 :: s185 :: s186 :: s187 :: s188 :: s189 :: s190 :: s191 :: s192 :: s193 :: s194 :: s195 :: s196 :: s197 :: []), []⟩ wx) :
    (regionOf Tryz.f4 28).wp Tryz.prog Q ⟨List.toArray (s0 :: s1 :: s2 :: s3 :: s4 :: mv :: s6 :: s7 :: s8 :: s9 :: s10 :: s11 :: s12 :: s13 :: .int .i64 st :: s15 :: s16 :: s17 :: .string c :: s19 :: .bool true :: s21 :: s22 :: s23 :: s24 :: s25 :: s26 :: s27 :: s28 :: s29 :: s30 :: s31 :: s32 :: s33 :: s34 :: s35 :: s36 :: s37 :: s38 :: s39 :: s40 :: s41 :: s42 :: s43 :: s44 :: s45 :: s46 :: s47 :: s48 :: s49 :: s50 :: s51 :: s52 :: s53 :: s54 :: s55 :: s56 :: s57 :: s58 :: s59 :: s60 :: s61 :: s62 :: s63 :: s64 :: s65 :: s66 :: s67 :: s68 :: s69 :: s70 :: s71 :: s72 :: s73 :: s74 :: s75 :: s76 :: s77 :: s78 :: s79 :: s80 :: s81 :: s82 :: s83 :: s84 :: s85 :: s86 :: s87 :: s88 :: s89 :: s90 :: s91 :: s92 :: s93 :: s94 :: s95 :: s96 :: s97 :: s98 :: s99 :: s100 :: s101 :: s102 :: s103 :: s104 :: s105 :: s106 :: s107 :: s108 :: s109 :: s110 :: s111 :: s112 :: s113 :: s114 :: s115 :: s116 :: s117 :: s118 :: s119 :: s120 :: s121 :: s122 :: s123 :: s124 :: s125 :: s126 :: s127 :: s128 :: s129 :: s130 :: s131 :: s132 :: s133 :: s134 :: s135 :: s136 :: s137 :: s138 :: s139 :: s140 :: s141 :: s142 :: s143 :: s144 :: s145 :: s146 :: s147 :: s148 :: s149 :: s150 :: s151 :: s152 :: s153 :: s154 :: s155 :: s156 :: s157 :: s158 :: s159 :: s160 :: s161 :: s162 :: s163 :: s164 :: s165 :: s166 :: s167 :: s168 :: s169 :: s170 :: s171 :: s172 :: s173 :: s174 :: s175 :: s176 :: s177 :: s178 :: s179 :: s180 :: s181 :: s182 :: s183 :: s184 :: s185 :: s186 :: s187 :: s188 :: s189 :: s190 :: s191 :: s192 :: s193 :: s194 :: s195 :: s196 :: s197 :: []), []⟩ W := by
  refine of_onlyN (K := Q .normal) ?_ (fun _ _ h => h)
  generalize Q .normal = K at hQ ⊢
  have HQ := Lib.hid hQ; clear hQ
  conv => arg 2; whnf
  have HM := Lib.hid hm
  have HI := Lib.hid hin
  clear hm hin
  go_wp2_with fail
  refine (seat_any st c W).mono ?_
  rintro _ w2 ⟨rfl, hb2⟩
  go_wp2_with fail
  refine (hasSeat_any mv M ⟨st, c⟩ w2 (HM.out.below hb2) lm).mono ?_
  rintro _ w3 ⟨rfl, hb3⟩
  rw [decide_eq_true HI.out]
  have hS3 := below_next hb2 hb3
  go_wp2_with fail
  exact HQ.out _ _ _ _ _ _ _ _ _ _ hS3

set_option maxHeartbeats 4000000 in
set_option maxRecDepth 100000 in
theorem pm_r35 {s0 s1 s2 s3 s4 s5 s6 s7 s8 s9 s10 s11 s12 s13 s14 s15 s16 s17 s20 s21 s24 s25 s26 s27 s28 s29 s30 s31 s32 s33 s34 s35 s36 s37 s38 s39 s40 s41 s42 s43 s44 s45 s46 s47 s48 s49 s50 s51 s52 s53 s54 s55 s56 s57 s58 s59 s60 s61 s62 s63 s64 s65 s66 s67 s68 s69 s70 s71 s72 s73 s74 s75 s76 s77 s78 s79 s80 s81 s82 s83 s84 s85 s86 s87 s88 s89 s90 s91 s92 s93 s94 s95 s96 s97 s98 s99 s100 s101 s102 s103 s104 s105 s106 s107 s108 s109 s110 s111 s112 s113 s114 s115 s116 s117 s118 s119 s120 s121 s122 s123 s124 s125 s126 s127 s128 s129 s130 s131 s132 s133 s134 s135 s136 s137 s138 s139 s140 s141 s142 s143 s144 s145 s146 s147 s148 s149 s150 s151 s152 s153 s154 s155 s156 s157 s158 s159 s160 s161 s162 s163 s164 s165 s166 s167 s168 s169 s170 s171 s172 s173 s174 s175 s176 s177 s178 s179 s180 s181 s182 s183 s184 s185 s186 s187 s188 s189 s190 s191 s192 s193 s194 s195 s196 s197 : Value} (ob xb : Nat) (c a : ByteArray) (o x : Off) (W : World) (Q : Exit → Act → World → Prop) (ho : (ob < W.heap.size ∧ ∀ j, W.cell? ⟨ob, j, none⟩ = (#[.string o.code, .int .i64 o.credits, .int .i64 o.places, .slice o.sp o.slots.length o.sc, .slice o.np o.needs.length o.nc] : Array Value)[j]?)) (hx : (xb < W.heap.size ∧ ∀ j, W.cell? ⟨xb, j, none⟩ = (#[.string x.code, .int .i64 x.credits, .int .i64 x.places, .slice x.sp x.slots.length x.sc, .slice x.np x.needs.length x.nc] : Array Value)[j]?)) (ko : OffOk W o) (kx : OffOk W x) (fo : o.few) (fx : x.few) (hne : (a.toList == c.toList) = false) (hcl : clashO o x = false)
    (hQ : ∀ (u136 u137 u138 u139 u140 u141 u142 : Value)  (wx : World), RowKit.Below W.heap.size W wx → Q .normal ⟨List.toArray (s0 :: s1 :: s2 :: s3 :: s4 :: s5 :: s6 :: s7 :: s8 :: s9 :: s10 :: s11 :: s12 :: s13 :: s14 :: s15 :: s16 :: s17 :: .string c :: .pointer (some ⟨ob, 0, none⟩) :: s20 :: s21 :: .string a :: .pointer (some ⟨xb, 0, none⟩) :: s24 :: s25 :: s26 :: s27 :: s28 :: s29 :: s30 :: s31 :: s32 :: s33 :: s34 :: s35 :: s36 :: s37 :: s38 :: s39 :: s40 :: s41 :: s42 :: s43 :: s44 :: s45 :: s46 :: s47 :: s48 :: s49 :: s50 :: s51 :: s52 :: s53 :: s54 :: s55 :: s56 :: s57 :: s58 :: s59 :: s60 :: s61 :: s62 :: s63 :: s64 :: s65 :: s66 :: s67 :: s68 :: s69 :: s70 :: s71 :: s72 :: s73 :: s74 :: s75 :: s76 :: s77 :: s78 :: s79 :: s80 :: s81 :: s82 :: s83 :: s84 :: s85 :: s86 :: s87 :: s88 :: s89 :: s90 :: s91 :: s92 :: s93 :: s94 :: s95 :: s96 :: s97 :: s98 :: s99 :: s100 :: s101 :: s102 :: s103 :: s104 :: s105 :: s106 :: s107 :: s108 :: s109 :: s110 :: s111 :: s112 :: s113 :: s114 :: s115 :: s116 :: s117 :: s118 :: s119 :: s120 :: s121 :: s122 :: s123 :: s124 :: s125 :: s126 :: s127 :: s128 :: s129 :: s130 :: s131 :: s132 :: s133 :: s134 :: s135 :: u136 :: u137 :: u138 :: u139 :: u140 :: u141 :: u142 :: .bool false :: s144 :: s145 :: s146 :: s147 :: s148 :: s149 :: s150 :: s151 :: s152 :: s153 :: s154 :: s155 :: s156 :: s157 :: s158 :: s159 :: s160 :: s161 :: s162 :: s163 :: s164 :: s165 :: s166 :: s167 :: s168 :: s169 :: s170 :: s171 :: s172 :: s173 :: s174 :: s175 :: s176 :: s177 :: s178 :: s179 :: s180 :: s181 :: s182 :: s183 :: s184 :: s185 :: s186 :: s187 :: s188 :: s189 :: s190 :: s191 :: s192 :: s193 :: s194 :: s195 :: s196 :: s197 :: []), []⟩ wx) :
    (regionOf Tryz.f4 35).wp Tryz.prog Q ⟨List.toArray (s0 :: s1 :: s2 :: s3 :: s4 :: s5 :: s6 :: s7 :: s8 :: s9 :: s10 :: s11 :: s12 :: s13 :: s14 :: s15 :: s16 :: s17 :: .string c :: .pointer (some ⟨ob, 0, none⟩) :: s20 :: s21 :: .string a :: .pointer (some ⟨xb, 0, none⟩) :: s24 :: s25 :: s26 :: s27 :: s28 :: s29 :: s30 :: s31 :: s32 :: s33 :: s34 :: s35 :: s36 :: s37 :: s38 :: s39 :: s40 :: s41 :: s42 :: s43 :: s44 :: s45 :: s46 :: s47 :: s48 :: s49 :: s50 :: s51 :: s52 :: s53 :: s54 :: s55 :: s56 :: s57 :: s58 :: s59 :: s60 :: s61 :: s62 :: s63 :: s64 :: s65 :: s66 :: s67 :: s68 :: s69 :: s70 :: s71 :: s72 :: s73 :: s74 :: s75 :: s76 :: s77 :: s78 :: s79 :: s80 :: s81 :: s82 :: s83 :: s84 :: s85 :: s86 :: s87 :: s88 :: s89 :: s90 :: s91 :: s92 :: s93 :: s94 :: s95 :: s96 :: s97 :: s98 :: s99 :: s100 :: s101 :: s102 :: s103 :: s104 :: s105 :: s106 :: s107 :: s108 :: s109 :: s110 :: s111 :: s112 :: s113 :: s114 :: s115 :: s116 :: s117 :: s118 :: s119 :: s120 :: s121 :: s122 :: s123 :: s124 :: s125 :: s126 :: s127 :: s128 :: s129 :: s130 :: s131 :: s132 :: s133 :: s134 :: s135 :: s136 :: s137 :: s138 :: s139 :: s140 :: s141 :: s142 :: s143 :: s144 :: s145 :: s146 :: s147 :: s148 :: s149 :: s150 :: s151 :: s152 :: s153 :: s154 :: s155 :: s156 :: s157 :: s158 :: s159 :: s160 :: s161 :: s162 :: s163 :: s164 :: s165 :: s166 :: s167 :: s168 :: s169 :: s170 :: s171 :: s172 :: s173 :: s174 :: s175 :: s176 :: s177 :: s178 :: s179 :: s180 :: s181 :: s182 :: s183 :: s184 :: s185 :: s186 :: s187 :: s188 :: s189 :: s190 :: s191 :: s192 :: s193 :: s194 :: s195 :: s196 :: s197 :: []), []⟩ W := by
  refine of_onlyN (K := Q .normal) ?_ (fun _ _ h => h)
  generalize Q .normal = K at hQ ⊢
  have HQ := Lib.hid hQ; clear hQ
  conv => arg 2; whnf
  have keepS : ∀ w', RowKit.Below W.heap.size W w' → RowKit.Below W.heap.size W w' ∧ (∀ j, w'.cell? ⟨ob, j, none⟩ = (#[.string o.code, .int .i64 o.credits, .int .i64 o.places, .slice o.sp o.slots.length o.sc, .slice o.np o.needs.length o.nc] : Array Value)[j]?) ∧ (∀ j, w'.cell? ⟨xb, j, none⟩ = (#[.string x.code, .int .i64 x.credits, .int .i64 x.places, .slice x.sp x.slots.length x.sc, .slice x.np x.needs.length x.nc] : Array Value)[j]?) := fun w' hb => ⟨hb, fun j => (hb.cell (p := ⟨ob, j, none⟩) ho.1).trans (ho.2 j), fun j => (hb.cell (p := ⟨xb, j, none⟩) hx.1).trans (hx.2 j)⟩
  have hS0 := keepS _ (Below.refl W.heap.size W).drew
  have HO := ho.2
  have HX := hx.2
  have HC := clash_any o x W ko.slots kx.slots fo fx
  rw [hcl] at HC
  clear ko kx fo fx hcl
  go_wp2_with fail
  refine HC.mono ?_
  rintro _ w2 ⟨rfl, hb2⟩
  go_wp2_with fail
  exact HQ.out _ _ _ _ _ _ _ _ hb2

set_option maxHeartbeats 4000000 in
set_option maxRecDepth 100000 in
theorem pm_b8 {s0 s1 s2 s3 s5 s6 s7 s8 s9 s10 s11 s12 s13 s14 s15 s16 s17 s20 s21 s22 s23 s24 s25 s26 s27 s28 s29 s30 s31 s32 s33 s34 s35 s36 s37 s38 s39 s40 s41 s42 s43 s44 s45 s46 s47 s48 s49 s50 s51 s52 s53 s54 s55 s56 s57 s58 s59 s60 s61 s62 s63 s64 s65 s66 s67 s68 s69 s70 s71 s72 s73 s74 s75 s76 s77 s78 s79 s80 s81 s82 s83 s84 s85 s86 s87 s88 s89 s90 s91 s92 s93 s94 s95 s96 s97 s98 s99 s100 s101 s102 s103 s104 s105 s106 s107 s108 s109 s110 s111 s112 s113 s114 s115 s116 s117 s118 s119 s120 s121 s122 s123 s127 s128 s129 s130 s131 s132 s133 s134 s135 s136 s137 s138 s139 s140 s141 s142 s143 s144 s145 s146 s147 s148 s149 s150 s151 s152 s153 s154 s155 s156 s157 s158 s159 s160 s161 s162 s163 s164 s165 s166 s167 s168 s169 s170 s171 s172 s173 s174 s175 s176 s177 s178 s179 s180 s181 s182 s183 s184 s185 s186 s187 s188 s189 s190 s191 s192 s193 s194 s195 s196 s197 : Value} (ob n : Nat) (pS po : Option Addr) (cS co : Nat) (mv : Value) (c : ByteArray) (T : List ByteArray) (L : List Off) (M : List Seat) (o : Off) (W : World) (Q : Exit → Act → World → Prop) (hc : CatIn W (.slice po L.length co) mv L M) (hg : GoodL 6 L) (hn : T.length = n) (hT : RowIn encT W (.slice pS n cS) T) (lT : T.length ≤ 1000000) (ho : (ob < W.heap.size ∧ ∀ j, W.cell? ⟨ob, j, none⟩ = (#[.string o.code, .int .i64 o.credits, .int .i64 o.places, .slice o.sp o.slots.length o.sc, .slice o.np o.needs.length o.nc] : Array Value)[j]?)) (ko : OffOk W o) (so : SameOff o (getO L c)) (hap : ∀ a ∈ T, a ≠ c ∧ clashO (getO L c) (getO L a) = false)
    (hQ : ∀ (u2 u22 u23 u24 u126 u127 u128 u129 u130 u131 u132 u133 u134 u135 u136 u137 u138 u139 u140 u141 u142 u143 u144 : Value)  (wx : World), RowKit.Below W.heap.size W wx → Q .normal ⟨List.toArray (s0 :: s1 :: u2 :: s3 :: .slice po L.length co :: s5 :: s6 :: s7 :: s8 :: s9 :: s10 :: s11 :: s12 :: s13 :: s14 :: s15 :: s16 :: s17 :: .string c :: .pointer (some ⟨ob, 0, none⟩) :: s20 :: s21 :: u22 :: u23 :: u24 :: s25 :: s26 :: s27 :: s28 :: s29 :: s30 :: s31 :: s32 :: s33 :: s34 :: s35 :: s36 :: s37 :: s38 :: s39 :: s40 :: s41 :: s42 :: s43 :: s44 :: s45 :: s46 :: s47 :: s48 :: s49 :: s50 :: s51 :: s52 :: s53 :: s54 :: s55 :: s56 :: s57 :: s58 :: s59 :: s60 :: s61 :: s62 :: s63 :: s64 :: s65 :: s66 :: s67 :: s68 :: s69 :: s70 :: s71 :: s72 :: s73 :: s74 :: s75 :: s76 :: s77 :: s78 :: s79 :: s80 :: s81 :: s82 :: s83 :: s84 :: s85 :: s86 :: s87 :: s88 :: s89 :: s90 :: s91 :: s92 :: s93 :: s94 :: s95 :: s96 :: s97 :: s98 :: s99 :: s100 :: s101 :: s102 :: s103 :: s104 :: s105 :: s106 :: s107 :: s108 :: s109 :: s110 :: s111 :: s112 :: s113 :: s114 :: s115 :: s116 :: s117 :: s118 :: s119 :: s120 :: s121 :: s122 :: s123 :: .slice pS n cS :: .int .i64 n :: u126 :: u127 :: u128 :: u129 :: u130 :: u131 :: u132 :: u133 :: u134 :: u135 :: u136 :: u137 :: u138 :: u139 :: u140 :: u141 :: u142 :: u143 :: u144 :: s145 :: s146 :: s147 :: s148 :: s149 :: s150 :: s151 :: s152 :: s153 :: s154 :: s155 :: s156 :: s157 :: s158 :: s159 :: s160 :: s161 :: s162 :: s163 :: s164 :: s165 :: s166 :: s167 :: s168 :: s169 :: s170 :: s171 :: s172 :: s173 :: s174 :: s175 :: s176 :: s177 :: s178 :: s179 :: s180 :: s181 :: s182 :: s183 :: s184 :: s185 :: s186 :: s187 :: s188 :: s189 :: s190 :: s191 :: s192 :: s193 :: s194 :: s195 :: s196 :: s197 :: []), []⟩ wx) :
    (blockOf Tryz.f4 8).wp Tryz.prog Q ⟨List.toArray (s0 :: s1 :: s2 :: s3 :: .slice po L.length co :: s5 :: s6 :: s7 :: s8 :: s9 :: s10 :: s11 :: s12 :: s13 :: s14 :: s15 :: s16 :: s17 :: .string c :: .pointer (some ⟨ob, 0, none⟩) :: s20 :: s21 :: s22 :: s23 :: s24 :: s25 :: s26 :: s27 :: s28 :: s29 :: s30 :: s31 :: s32 :: s33 :: s34 :: s35 :: s36 :: s37 :: s38 :: s39 :: s40 :: s41 :: s42 :: s43 :: s44 :: s45 :: s46 :: s47 :: s48 :: s49 :: s50 :: s51 :: s52 :: s53 :: s54 :: s55 :: s56 :: s57 :: s58 :: s59 :: s60 :: s61 :: s62 :: s63 :: s64 :: s65 :: s66 :: s67 :: s68 :: s69 :: s70 :: s71 :: s72 :: s73 :: s74 :: s75 :: s76 :: s77 :: s78 :: s79 :: s80 :: s81 :: s82 :: s83 :: s84 :: s85 :: s86 :: s87 :: s88 :: s89 :: s90 :: s91 :: s92 :: s93 :: s94 :: s95 :: s96 :: s97 :: s98 :: s99 :: s100 :: s101 :: s102 :: s103 :: s104 :: s105 :: s106 :: s107 :: s108 :: s109 :: s110 :: s111 :: s112 :: s113 :: s114 :: s115 :: s116 :: s117 :: s118 :: s119 :: s120 :: s121 :: s122 :: s123 :: .slice pS n cS :: .int .i64 n :: .int .i64 0 :: s127 :: s128 :: s129 :: s130 :: s131 :: s132 :: s133 :: s134 :: s135 :: s136 :: s137 :: s138 :: s139 :: s140 :: s141 :: s142 :: s143 :: s144 :: s145 :: s146 :: s147 :: s148 :: s149 :: s150 :: s151 :: s152 :: s153 :: s154 :: s155 :: s156 :: s157 :: s158 :: s159 :: s160 :: s161 :: s162 :: s163 :: s164 :: s165 :: s166 :: s167 :: s168 :: s169 :: s170 :: s171 :: s172 :: s173 :: s174 :: s175 :: s176 :: s177 :: s178 :: s179 :: s180 :: s181 :: s182 :: s183 :: s184 :: s185 :: s186 :: s187 :: s188 :: s189 :: s190 :: s191 :: s192 :: s193 :: s194 :: s195 :: s196 :: s197 :: []), []⟩ W := by
  refine of_onlyN (K := Q .normal) ?_ (fun _ _ h => h)
  generalize Q .normal = K at hQ ⊢
  have HQ := Lib.hid hQ; clear hQ
  conv => arg 2; whnf
  subst hn
  have HC := Lib.hid hc
  have HG := Lib.hid hg
  have HT := Lib.hid hT
  have HK := Lib.hid ko
  have HSO := Lib.hid so
  have HA := Lib.hid hap
  have lL : L.length ≤ 1000000 := hc.lo
  have few : ∀ d, (getO L d).few := fun d => by
    unfold getO
    cases hf : findO L d with
    | none => show (0 : Nat) ≤ _; omega
    | some x => exact (hc.ok x (List.mem_of_find?_eq_some hf)).2
  have HF := Lib.hid few
  clear hc hg hT ko so hap few
  go_wp2_with fail
  go_loopw [126] (fun i wr => ∃ k : Nat, k ≤ T.length ∧ i = .int .i64 k ∧ RowKit.Below W.heap.size W wr) (fun i _ => T.length - (RowKit.intOf i).toNat)
  case atStart => exact ⟨0, Nat.zero_le _, rfl, Below.refl _ _⟩
  case round =>
    obtain ⟨k, hk, rfl, hbr⟩ := hrel
    by_cases hlt : k < T.length
    · obtain ⟨g, of, c', hv, _, hgl, hx⟩ := HT.out.at_ (k := 1) (fun _ => rfl) (by omega)
      have e1 := (Value.slice.inj hv).1
      subst e1
      have hz := List.getElem?_eq_getElem hlt
      have hat := hx k _ hz
      have HM := Lib.hid (HA.out _ (List.getElem_mem hlt))
      generalize T[k] = a at hz hat HM
      have h0 : wr.cell? ⟨g, of + k, none⟩ = some (.string a) := by
        rw [hbr.cell (p := ⟨g, of + k, none⟩) hgl]
        have := hat 0 _ rfl
        simpa using this
      have hlt2 : (k : Int) < (T.length : Int) := by omega
      clear hv hx hz hat
      go_wp2_with fail
      refine (find_any (.slice po L.length co) L a wr (HC.out.below hbr).off lL (fun x hx => ⟨((HC.out.below hbr).ok x hx).1, ((HC.out.below hbr).ok x hx).2, by have := (HG.out.1 x hx).nd; omega⟩)).mono ?_
      rintro _ w1 ⟨x, rfl, hsx, hkx, hb1⟩
      have hb2 := below_next hbr hb1
      have HX := Lib.hid hsx
      have HKX := Lib.hid hkx
      clear hsx hkx h0 hb1 hbr
      generalize (findO L a).isSome = z
      have hba := below_alloc1 w1 (.cells #[.string x.code, .int .i64 x.credits, .int .i64 x.places, .slice x.sp x.slots.length x.sc, .slice x.np x.needs.length x.nc] 52)
      have hxb : w1.heap.size < (w1.alloc (.cells #[.string x.code, .int .i64 x.credits, .int .i64 x.places, .slice x.sp x.slots.length x.sc, .slice x.np x.needs.length x.nc] 52)).heap.size ∧ ∀ j, (w1.alloc (.cells #[.string x.code, .int .i64 x.credits, .int .i64 x.places, .slice x.sp x.slots.length x.sc, .slice x.np x.needs.length x.nc] 52)).cell? ⟨w1.heap.size, j, none⟩ = (#[.string x.code, .int .i64 x.credits, .int .i64 x.places, .slice x.sp x.slots.length x.sc, .slice x.np x.needs.length x.nc] : Array Value)[j]? := ⟨by simp, fun j => Lib.cell_of_heap (heap_alloc_new w1 _) j⟩
      have hb3 := below_next hb2 hba
      have HKY := Lib.hid (HKX.out.below hba)
      go_upto_region 35 with fail
      generalize w1.heap.size = xb at hxb ⊢
      generalize w1.alloc _ = w2 at hxb hb3 HKY ⊢
      clear hba hb2 HKX
      have hob : ob < w2.heap.size ∧ ∀ j, w2.cell? ⟨ob, j, none⟩ = (#[.string o.code, .int .i64 o.credits, .int .i64 o.places, .slice o.sp o.slots.length o.sc, .slice o.np o.needs.length o.nc] : Array Value)[j]? := ⟨Nat.lt_of_lt_of_le ho.1 hb3.size, fun j => (hb3.cell (p := ⟨ob, j, none⟩) ho.1).trans (ho.2 j)⟩
      refine pm_r35 ob xb c a o x w2 _ hob hxb (HK.out.below hb3) HKY.out (by unfold Off.few; rw [HSO.out.slots]; exact HF.out c) (by unfold Off.few; rw [HX.out.slots]; exact HF.out a) (by rw [beq_eq_false_iff_ne, ne_eq, req_ba]; exact HM.out.1) (by
        have h := HM.out.2
        unfold clashO at h ⊢
        rw [HSO.out.slots, HX.out.slots]
        exact h) ?_
      intro u136 u137 u138 u139 u140 u141 u142 w6 hb7
      have hb8 := below_next hb3 hb7
      clear hxb hob hb7 hb3 HKY
      go_wp2_with fail
      go_roundw
      case rel => exact ⟨k + 1, by omega, by go_num, hb8⟩
      case measure => simp [RowKit.intOf]; omega
    · obtain rfl : k = T.length := by omega
      go_wp2_with fail
      exact HQ.out _ _ _ _ _ _ _ _ _ _ _ _ _ _ _ _ _ _ _ _ _ _ _ _ hbr

set_option maxHeartbeats 4000000 in
set_option maxRecDepth 100000 in
theorem pm_b6 {s0 s1 s2 s3 s6 s7 s8 s9 s10 s11 s12 s13 s17 s18 s19 s20 s21 s22 s23 s24 s25 s26 s27 s28 s29 s30 s31 s32 s33 s34 s35 s36 s37 s38 s39 s40 s41 s42 s43 s44 s45 s46 s47 s48 s49 s50 s51 s52 s53 s54 s55 s56 s57 s58 s59 s60 s61 s62 s63 s64 s65 s66 s67 s68 s69 s70 s71 s72 s73 s74 s75 s76 s77 s78 s79 s80 s81 s82 s83 s84 s85 s86 s87 s88 s89 s90 s91 s92 s93 s94 s98 s99 s100 s101 s102 s103 s104 s105 s106 s107 s108 s109 s110 s111 s112 s113 s114 s115 s116 s117 s118 s119 s120 s121 s122 s123 s124 s125 s126 s127 s128 s129 s130 s131 s132 s133 s134 s135 s136 s137 s138 s139 s140 s141 s142 s143 s144 s145 s146 s147 s148 s149 s150 s151 s152 s153 s154 s155 s156 s157 s158 s159 s160 s161 s162 s163 s164 s165 s166 s167 s168 s169 s170 s171 s172 s173 s174 s175 s176 s177 s178 s179 s180 s181 s182 s183 s184 s185 s186 s187 s188 s189 s190 s191 s192 s193 s194 s195 s196 s197 : Value} (pS po : Option Addr) (cS co : Nat) (mv : Value) (st : Int) (S : List ByteArray) (D : List Seat) (L : List Off) (M : List Seat) (most : Int) (W : World) (Q : Exit → Act → World → Prop) (hc : CatIn W (.slice po L.length co) mv L M) (hg : GoodL 6 L) (hT : RowIn encT W (.slice pS S.length cS) S) (hp : S.Perm (codesOf D st)) (lD : D.length ≤ 1000) (hok : OkS L M most D)
    (hQ : ∀ (u2 u17 u18 u19 u20 u22 u23 u24 u97 u98 u99 u100 u101 u102 u103 u104 u105 u106 u107 u108 u109 u110 u111 u112 u113 u114 u115 u116 u117 u118 u119 u120 u121 u122 u123 u124 u125 u126 u127 u128 u129 u130 u131 u132 u133 u134 u135 u136 u137 u138 u139 u140 u141 u142 u143 u144 u145 : Value)  (wx : World), RowKit.Below W.heap.size W wx → Q .normal ⟨List.toArray (s0 :: s1 :: u2 :: s3 :: .slice po L.length co :: mv :: s6 :: s7 :: s8 :: s9 :: s10 :: s11 :: s12 :: s13 :: .int .i64 st :: .int .i64 (credS L S) :: .slice pS S.length cS :: u17 :: u18 :: u19 :: u20 :: s21 :: u22 :: u23 :: u24 :: s25 :: s26 :: s27 :: s28 :: s29 :: s30 :: s31 :: s32 :: s33 :: s34 :: s35 :: s36 :: s37 :: s38 :: s39 :: s40 :: s41 :: s42 :: s43 :: s44 :: s45 :: s46 :: s47 :: s48 :: s49 :: s50 :: s51 :: s52 :: s53 :: s54 :: s55 :: s56 :: s57 :: s58 :: s59 :: s60 :: s61 :: s62 :: s63 :: s64 :: s65 :: s66 :: s67 :: s68 :: s69 :: s70 :: s71 :: s72 :: s73 :: s74 :: s75 :: s76 :: s77 :: s78 :: s79 :: s80 :: s81 :: s82 :: s83 :: s84 :: s85 :: s86 :: s87 :: s88 :: s89 :: s90 :: s91 :: s92 :: s93 :: s94 :: .slice pS S.length cS :: .int .i64 S.length :: u97 :: u98 :: u99 :: u100 :: u101 :: u102 :: u103 :: u104 :: u105 :: u106 :: u107 :: u108 :: u109 :: u110 :: u111 :: u112 :: u113 :: u114 :: u115 :: u116 :: u117 :: u118 :: u119 :: u120 :: u121 :: u122 :: u123 :: u124 :: u125 :: u126 :: u127 :: u128 :: u129 :: u130 :: u131 :: u132 :: u133 :: u134 :: u135 :: u136 :: u137 :: u138 :: u139 :: u140 :: u141 :: u142 :: u143 :: u144 :: u145 :: s146 :: s147 :: s148 :: s149 :: s150 :: s151 :: s152 :: s153 :: s154 :: s155 :: s156 :: s157 :: s158 :: s159 :: s160 :: s161 :: s162 :: s163 :: s164 :: s165 :: s166 :: s167 :: s168 :: s169 :: s170 :: s171 :: s172 :: s173 :: s174 :: s175 :: s176 :: s177 :: s178 :: s179 :: s180 :: s181 :: s182 :: s183 :: s184 :: s185 :: s186 :: s187 :: s188 :: s189 :: s190 :: s191 :: s192 :: s193 :: s194 :: s195 :: s196 :: s197 :: []), []⟩ wx) :
    (blockOf Tryz.f4 6).wp Tryz.prog Q ⟨List.toArray (s0 :: s1 :: s2 :: s3 :: .slice po L.length co :: mv :: s6 :: s7 :: s8 :: s9 :: s10 :: s11 :: s12 :: s13 :: .int .i64 st :: .int .i64 0 :: .slice pS S.length cS :: s17 :: s18 :: s19 :: s20 :: s21 :: s22 :: s23 :: s24 :: s25 :: s26 :: s27 :: s28 :: s29 :: s30 :: s31 :: s32 :: s33 :: s34 :: s35 :: s36 :: s37 :: s38 :: s39 :: s40 :: s41 :: s42 :: s43 :: s44 :: s45 :: s46 :: s47 :: s48 :: s49 :: s50 :: s51 :: s52 :: s53 :: s54 :: s55 :: s56 :: s57 :: s58 :: s59 :: s60 :: s61 :: s62 :: s63 :: s64 :: s65 :: s66 :: s67 :: s68 :: s69 :: s70 :: s71 :: s72 :: s73 :: s74 :: s75 :: s76 :: s77 :: s78 :: s79 :: s80 :: s81 :: s82 :: s83 :: s84 :: s85 :: s86 :: s87 :: s88 :: s89 :: s90 :: s91 :: s92 :: s93 :: s94 :: .slice pS S.length cS :: .int .i64 S.length :: .int .i64 0 :: s98 :: s99 :: s100 :: s101 :: s102 :: s103 :: s104 :: s105 :: s106 :: s107 :: s108 :: s109 :: s110 :: s111 :: s112 :: s113 :: s114 :: s115 :: s116 :: s117 :: s118 :: s119 :: s120 :: s121 :: s122 :: s123 :: s124 :: s125 :: s126 :: s127 :: s128 :: s129 :: s130 :: s131 :: s132 :: s133 :: s134 :: s135 :: s136 :: s137 :: s138 :: s139 :: s140 :: s141 :: s142 :: s143 :: s144 :: s145 :: s146 :: s147 :: s148 :: s149 :: s150 :: s151 :: s152 :: s153 :: s154 :: s155 :: s156 :: s157 :: s158 :: s159 :: s160 :: s161 :: s162 :: s163 :: s164 :: s165 :: s166 :: s167 :: s168 :: s169 :: s170 :: s171 :: s172 :: s173 :: s174 :: s175 :: s176 :: s177 :: s178 :: s179 :: s180 :: s181 :: s182 :: s183 :: s184 :: s185 :: s186 :: s187 :: s188 :: s189 :: s190 :: s191 :: s192 :: s193 :: s194 :: s195 :: s196 :: s197 :: []), []⟩ W := by
  refine of_onlyN (K := Q .normal) ?_ (fun _ _ h => h)
  generalize Q .normal = K at hQ ⊢
  have HQ := Lib.hid hQ; clear hQ
  conv => arg 2; whnf
  have HC := Lib.hid hc
  have HG := Lib.hid hg
  have HT := Lib.hid hT
  have HP := Lib.hid hp
  have HK := Lib.hid hok
  have lS : S.length ≤ 1000 := by have := pm_len hp; omega
  have lL : L.length ≤ 1000000 := hc.lo
  have lM : M.length ≤ 1000000 := hc.lm
  have few : ∀ d, (getO L d).few := fun d => by
    unfold getO
    cases hf : findO L d with
    | none => show (0 : Nat) ≤ _; omega
    | some x => exact (hc.ok x (List.mem_of_find?_eq_some hf)).2
  have HF := Lib.hid few
  have hcap : S.length ≤ cS := by obtain ⟨_, _, h, h2⟩ := hT.form; injection h with _ _ h; omega
  clear hc hg hT hp hok few
  go_wp2_with fail
  go_loopw [15, 97] (fun v i wr => ∃ k : Nat, k ≤ S.length ∧ v = .int .i64 (credS L (S.take k)) ∧ i = .int .i64 k ∧ RowKit.Below W.heap.size W wr) (fun _ i _ => S.length - (RowKit.intOf i).toNat)
  case atStart => exact ⟨0, Nat.zero_le _, rfl, rfl, Below.refl _ _⟩
  case round =>
    obtain ⟨k, hk, rfl, rfl, hbr⟩ := hrel
    by_cases hlt : k < S.length
    · obtain ⟨g, of, c', hv, _, hgl, hx⟩ := HT.out.at_ (k := 1) (fun _ => rfl) (by omega)
      have e1 := (Value.slice.inj hv).1
      subst e1
      have hz := List.getElem?_eq_getElem hlt
      have hat := hx k _ hz
      have HM := Lib.hid (pm_in HP.out HK.out (List.getElem_mem hlt))
      have HA : Hid (∀ a ∈ S.take k, a ≠ S[k] ∧ clashO (getO L S[k]) (getO L a) = false) := Lib.hid fun a ha => by
        obtain ⟨i, hi, rfl⟩ := List.mem_iff_getElem.1 ha
        have hik : i < k := by simp at hi; omega
        exact pm_two HP.out HK.out hik (by rw [List.getElem_take]; exact List.getElem?_eq_getElem (by omega)) hz
      have HTK := Lib.hid (take_one hz)
      generalize S[k] = c at hz hat HM HA HTK
      have hct := getO_calm HG.out.calm c
      have hcs := credS_nonneg HG.out.calm (S.take k)
      have htl : (S.take k).length = k := by simp; omega
      have HCR := Lib.hid (show credS L (S.take (k + 1)) = credS L (S.take k) + (getO L c).credits by rw [HTK.out, credS_snoc])
      have h0 : wr.cell? ⟨g, of + k, none⟩ = some (.string c) := by
        rw [hbr.cell (p := ⟨g, of + k, none⟩) hgl]
        have := hat 0 _ rfl
        simpa using this
      have hlt2 : (k : Int) < (S.length : Int) := by omega
      have i1 : (0 : Int) ≤ (k : Int) := by omega
      have i2 : (k : Int) ≤ (cS : Int) := by omega
      clear hv hx hz hat HTK
      go_wp2_with fail
      refine (find_any (.slice po L.length co) L c wr (HC.out.below hbr).off lL (fun x hx => ⟨((HC.out.below hbr).ok x hx).1, ((HC.out.below hbr).ok x hx).2, by have := (HG.out.1 x hx).nd; omega⟩)).mono ?_
      rintro _ w1 ⟨o, rfl, hso, hko, hb1⟩
      have hb2 := below_next hbr hb1
      have HSO := Lib.hid hso
      have HKO := Lib.hid hko
      have hcr := hso.credits
      clear hso hko h0 hb1 hbr
      rw [HM.out.1]
      obtain ⟨cr, hcr2⟩ : ∃ cr, (getO L c).credits = cr := ⟨_, rfl⟩
      rw [hcr2] at hcr hct HCR
      have hcr3 : o.credits = cr := hcr
      have HCE := Lib.hid hcr3
      have HC2 := Lib.hid hcr2
      clear hcr hcr2
      obtain ⟨a0, hs0⟩ : ∃ a0, credS L (S.take k) = a0 := ⟨_, rfl⟩
      rw [hs0] at hcs HCR ⊢
      rw [htl] at hcs
      clear hs0
      have hwr : IntKind.i64.wrap (a0 + o.credits) = a0 + cr := by rw [hcr3]; exact IntWalk.i64_in _ (by omega)
      clear hcr3
      have hba := below_alloc1 w1 (.cells #[.string o.code, .int .i64 o.credits, .int .i64 o.places, .slice o.sp o.slots.length o.sc, .slice o.np o.needs.length o.nc] 52)
      have hxb : w1.heap.size < (w1.alloc (.cells #[.string o.code, .int .i64 o.credits, .int .i64 o.places, .slice o.sp o.slots.length o.sc, .slice o.np o.needs.length o.nc] 52)).heap.size ∧ ∀ j, (w1.alloc (.cells #[.string o.code, .int .i64 o.credits, .int .i64 o.places, .slice o.sp o.slots.length o.sc, .slice o.np o.needs.length o.nc] 52)).cell? ⟨w1.heap.size, j, none⟩ = (#[.string o.code, .int .i64 o.credits, .int .i64 o.places, .slice o.sp o.slots.length o.sc, .slice o.np o.needs.length o.nc] : Array Value)[j]? := ⟨by simp, fun j => Lib.cell_of_heap (heap_alloc_new w1 _) j⟩
      have hb3 := below_next hb2 hba
      have HKY := Lib.hid (HKO.out.below hba)
      go_upto_region 28 with fail
      generalize w1.heap.size = ob at hxb ⊢
      generalize w1.alloc _ = w2 at hxb hb3 HKY ⊢
      clear hba hb2 HKO
      refine pm_r28 mv st c M w2 _ (HC.out.below hb3).met lM HM.out.2 ?_
      intro u108 u109 u110 u111 u112 u113 u114 u115 u116 w3 hb4
      have hb5 := below_next hb3 hb4
      have hob : ob < w3.heap.size ∧ ∀ j, w3.cell? ⟨ob, j, none⟩ = (#[.string o.code, .int .i64 o.credits, .int .i64 o.places, .slice o.sp o.slots.length o.sc, .slice o.np o.needs.length o.nc] : Array Value)[j]? := ⟨Nat.lt_of_lt_of_le hxb.1 hb4.size, fun j => (hb4.cell (p := ⟨ob, j, none⟩) hxb.1).trans (hxb.2 j)⟩
      have HKZ := Lib.hid (HKY.out.below hb4)
      have hc1 : w3.cell? ⟨ob, 1, none⟩ = some (.int .i64 o.credits) := hob.2 1
      clear hxb HKY hb4 hb3
      have hTk := (HT.out.below hb5).take rfl hk
      go_upto_block 8 with fail
      refine pm_b8 ob k (some ⟨g, of, none⟩) po cS co mv c (S.take k) L M o w3 _ (HC.out.below hb5) HG.out htl hTk (by omega) hob HKZ.out HSO.out HA.out ?_
      clear hob HKZ hTk HA
      intro u2 u22 u23 u24 u126 u127 u128 u129 u130 u131 u132 u133 u134 u135 u136 u137 u138 u139 u140 u141 u142 u143 u144 w6 hb7
      have hb9 := below_next hb5 hb7
      clear hb7 hb5 hc1
      go_wp2_with fail
      go_roundw
      case rel => exact ⟨k + 1, by omega, by rw [HCR.out], by go_num, hb9⟩
      case measure => simp [RowKit.intOf]; omega
    · obtain rfl : k = S.length := by omega
      rw [List.take_length]
      go_wp2_with fail
      exact HQ.out _ _ _ _ _ _ _ _ _ _ _ _ _ _ _ _ _ _ _ _ _ _ _ _ _ _ _ _ _ _ _ _ _ _ _ _ _ _ _ _ _ _ _ _ _ _ _ _ _ _ _ _ _ _ _ _ _ _ hbr

set_option maxHeartbeats 4000000 in
set_option maxRecDepth 100000 in
theorem pm_b4 {s0 s1 s2 s3 s7 s9 s10 s11 s12 s13 s15 s16 s17 s18 s19 s20 s21 s22 s23 s24 s25 s26 s27 s28 s29 s30 s31 s32 s33 s34 s35 s36 s37 s38 s39 s40 s41 s42 s43 s44 s45 s46 s47 s48 s49 s50 s51 s52 s53 s54 s55 s56 s57 s58 s59 s60 s61 s62 s63 s64 s65 s66 s67 s68 s69 s70 s71 s72 s73 s74 s75 s76 s77 s78 s79 s80 s81 s82 s83 s84 s85 s86 s87 s88 s89 s90 s91 s92 s93 s94 s95 s96 s97 s98 s99 s100 s101 s102 s103 s104 s105 s106 s107 s108 s109 s110 s111 s112 s113 s114 s115 s116 s117 s118 s119 s120 s121 s122 s123 s124 s125 s126 s127 s128 s129 s130 s131 s132 s133 s134 s135 s136 s137 s138 s139 s140 s141 s142 s143 s144 s145 s146 s147 s148 s149 s150 s151 s152 s153 s154 s155 s156 s157 s158 s159 s160 s161 s162 s163 s164 s165 s166 s167 s168 s169 s170 s171 s172 s173 s174 s175 s176 s177 s178 s179 s180 s181 s182 s183 s184 s185 s186 s187 s188 s189 s190 s191 s192 s193 s194 s195 s196 s197 : Value} (db : Nat) (pd pw po : Option Addr) (cd cw co : Nat) (mv : Value) (D Wt : List Seat) (L : List Off) (M : List Seat) (most : Int) (W : World) (Q : Exit → Act → World → Prop) (hc : CatIn W (.slice po L.length co) mv L M) (hg : GoodL 6 L) (hd : DealIn W (.agg #[.slice pd D.length cd, .slice pw Wt.length cw]) ⟨D, Wt⟩) (hdb : (db < W.heap.size ∧ ∀ j, W.cell? ⟨db, j, none⟩ = (#[.slice pd D.length cd, .slice pw Wt.length cw] : Array Value)[j]?)) (lD : D.length ≤ 1000) (hok : OkS L M most D) (m0 : 0 ≤ most)
    (hQ : ∀ (u2 u14 u15 u16 u17 u18 u19 u20 u22 u23 u24 u88 u89 u90 u91 u92 u93 u94 u95 u96 u97 u98 u99 u100 u101 u102 u103 u104 u105 u106 u107 u108 u109 u110 u111 u112 u113 u114 u115 u116 u117 u118 u119 u120 u121 u122 u123 u124 u125 u126 u127 u128 u129 u130 u131 u132 u133 u134 u135 u136 u137 u138 u139 u140 u141 u142 u143 u144 u145 u146 u147 u148 u149 u150 u151 u152 u153 : Value)  (wx : World), RowKit.Below W.heap.size W wx → Q .normal ⟨List.toArray (s0 :: s1 :: u2 :: s3 :: .slice po L.length co :: mv :: .int .i64 most :: s7 :: .pointer (some ⟨db, 0, none⟩) :: s9 :: s10 :: s11 :: s12 :: s13 :: u14 :: u15 :: u16 :: u17 :: u18 :: u19 :: u20 :: s21 :: u22 :: u23 :: u24 :: s25 :: s26 :: s27 :: s28 :: s29 :: s30 :: s31 :: s32 :: s33 :: s34 :: s35 :: s36 :: s37 :: s38 :: s39 :: s40 :: s41 :: s42 :: s43 :: s44 :: s45 :: s46 :: s47 :: s48 :: s49 :: s50 :: s51 :: s52 :: s53 :: s54 :: s55 :: s56 :: s57 :: s58 :: s59 :: s60 :: s61 :: s62 :: s63 :: s64 :: s65 :: s66 :: s67 :: s68 :: s69 :: s70 :: s71 :: s72 :: s73 :: s74 :: s75 :: s76 :: s77 :: s78 :: s79 :: s80 :: s81 :: s82 :: s83 :: s84 :: s85 :: s86 :: s87 :: u88 :: u89 :: u90 :: u91 :: u92 :: u93 :: u94 :: u95 :: u96 :: u97 :: u98 :: u99 :: u100 :: u101 :: u102 :: u103 :: u104 :: u105 :: u106 :: u107 :: u108 :: u109 :: u110 :: u111 :: u112 :: u113 :: u114 :: u115 :: u116 :: u117 :: u118 :: u119 :: u120 :: u121 :: u122 :: u123 :: u124 :: u125 :: u126 :: u127 :: u128 :: u129 :: u130 :: u131 :: u132 :: u133 :: u134 :: u135 :: u136 :: u137 :: u138 :: u139 :: u140 :: u141 :: u142 :: u143 :: u144 :: u145 :: u146 :: u147 :: u148 :: u149 :: u150 :: u151 :: u152 :: u153 :: s154 :: s155 :: s156 :: s157 :: s158 :: s159 :: s160 :: s161 :: s162 :: s163 :: s164 :: s165 :: s166 :: s167 :: s168 :: s169 :: s170 :: s171 :: s172 :: s173 :: s174 :: s175 :: s176 :: s177 :: s178 :: s179 :: s180 :: s181 :: s182 :: s183 :: s184 :: s185 :: s186 :: s187 :: s188 :: s189 :: s190 :: s191 :: s192 :: s193 :: s194 :: s195 :: s196 :: s197 :: []), []⟩ wx) :
    (blockOf Tryz.f4 4).wp Tryz.prog Q ⟨List.toArray (s0 :: s1 :: s2 :: s3 :: .slice po L.length co :: mv :: .int .i64 most :: s7 :: .pointer (some ⟨db, 0, none⟩) :: s9 :: s10 :: s11 :: s12 :: s13 :: .int .i64 1 :: s15 :: s16 :: s17 :: s18 :: s19 :: s20 :: s21 :: s22 :: s23 :: s24 :: s25 :: s26 :: s27 :: s28 :: s29 :: s30 :: s31 :: s32 :: s33 :: s34 :: s35 :: s36 :: s37 :: s38 :: s39 :: s40 :: s41 :: s42 :: s43 :: s44 :: s45 :: s46 :: s47 :: s48 :: s49 :: s50 :: s51 :: s52 :: s53 :: s54 :: s55 :: s56 :: s57 :: s58 :: s59 :: s60 :: s61 :: s62 :: s63 :: s64 :: s65 :: s66 :: s67 :: s68 :: s69 :: s70 :: s71 :: s72 :: s73 :: s74 :: s75 :: s76 :: s77 :: s78 :: s79 :: s80 :: s81 :: s82 :: s83 :: s84 :: s85 :: s86 :: s87 :: s88 :: s89 :: s90 :: s91 :: s92 :: s93 :: s94 :: s95 :: s96 :: s97 :: s98 :: s99 :: s100 :: s101 :: s102 :: s103 :: s104 :: s105 :: s106 :: s107 :: s108 :: s109 :: s110 :: s111 :: s112 :: s113 :: s114 :: s115 :: s116 :: s117 :: s118 :: s119 :: s120 :: s121 :: s122 :: s123 :: s124 :: s125 :: s126 :: s127 :: s128 :: s129 :: s130 :: s131 :: s132 :: s133 :: s134 :: s135 :: s136 :: s137 :: s138 :: s139 :: s140 :: s141 :: s142 :: s143 :: s144 :: s145 :: s146 :: s147 :: s148 :: s149 :: s150 :: s151 :: s152 :: s153 :: s154 :: s155 :: s156 :: s157 :: s158 :: s159 :: s160 :: s161 :: s162 :: s163 :: s164 :: s165 :: s166 :: s167 :: s168 :: s169 :: s170 :: s171 :: s172 :: s173 :: s174 :: s175 :: s176 :: s177 :: s178 :: s179 :: s180 :: s181 :: s182 :: s183 :: s184 :: s185 :: s186 :: s187 :: s188 :: s189 :: s190 :: s191 :: s192 :: s193 :: s194 :: s195 :: s196 :: s197 :: []), []⟩ W := by
  refine of_onlyN (K := Q .normal) ?_ (fun _ _ h => h)
  generalize Q .normal = K at hQ ⊢
  have HQ := Lib.hid hQ; clear hQ
  conv => arg 2; whnf
  have HC := Lib.hid hc
  have HG := Lib.hid hg
  have HD := Lib.hid hd
  have HK := Lib.hid hok
  clear hc hg hd hok
  go_wp2_with fail
  go_loopw [14] (fun i wr => ∃ s : Nat, 1 ≤ s ∧ s ≤ 6 ∧ i = .int .i64 s ∧ RowKit.Below W.heap.size W wr) (fun i _ => 6 - (RowKit.intOf i).toNat)
  case atStart => exact ⟨1, by omega, by omega, rfl, Below.refl _ _⟩
  case round =>
    obtain ⟨s, hs1, hs6, rfl, hbr⟩ := hrel
    by_cases hlt : s ≤ 5
    · have hs5 : decide ((s : Int) ≤ 5) = true := decide_eq_true (by omega)
      have hd0 : wr.cell? ⟨db, 0, none⟩ = some (.slice pd D.length cd) := (hbr.cell (p := ⟨db, 0, none⟩) hdb.1).trans (hdb.2 0)
      have hd1 : wr.cell? ⟨db, 1, none⟩ = some (.slice pw Wt.length cw) := (hbr.cell (p := ⟨db, 1, none⟩) hdb.1).trans (hdb.2 1)
      go_wp2_with fail
      refine (seats_any (.agg #[.slice pd D.length cd, .slice pw Wt.length cw]) ⟨D, Wt⟩ s wr (HD.out.below hbr)).mono ?_
      rintro _ w1 ⟨vS, S, rfl, hT, hp, hb1⟩
      have hb2 := below_next hbr hb1
      obtain ⟨pS, cS, rfl, _⟩ := hT.form
      have HT := Lib.hid hT
      have HP := Lib.hid hp
      clear hT hp hd0 hd1 hb1 hbr
      have hsum : credS L S ≤ most := by
        rcases pm_sum HG.out.calm HP.out HK.out lD with h | h
        · subst h; simpa [credS] using m0
        · exact h
      have HS := Lib.hid hsum
      clear hsum
      go_upto_block 6 with fail
      refine pm_b6 pS po cS co mv s S D L M most w1 _ (HC.out.below hb2) HG.out HT.out HP.out lD HK.out ?_
      intro u2 u17 u18 u19 u20 u22 u23 u24 u97 u98 u99 u100 u101 u102 u103 u104 u105 u106 u107 u108 u109 u110 u111 u112 u113 u114 u115 u116 u117 u118 u119 u120 u121 u122 u123 u124 u125 u126 u127 u128 u129 u130 u131 u132 u133 u134 u135 u136 u137 u138 u139 u140 u141 u142 u143 u144 u145 w2 hb3
      have hb4 := below_next hb2 hb3
      have hm : decide (most < credS L S) = false := decide_eq_false (by have := HS.out; omega)
      generalize credS L S = cr at hm ⊢
      clear hb2 hb3 HT HP
      go_wp2_with fail
      exact ⟨⟨s + 1, by omega, by omega, by go_num, hb4⟩, by simp [RowKit.intOf]; omega⟩
    · obtain rfl : s = 6 := by omega
      go_wp2_with fail
      exact HQ.out _ _ _ _ _ _ _ _ _ _ _ _ _ _ _ _ _ _ _ _ _ _ _ _ _ _ _ _ _ _ _ _ _ _ _ _ _ _ _ _ _ _ _ _ _ _ _ _ _ _ _ _ _ _ _ _ _ _ _ _ _ _ _ _ _ _ _ _ _ _ _ _ _ _ _ _ _ _ hbr

set_option maxHeartbeats 4000000 in
set_option maxRecDepth 100000 in
theorem pm_b10 {s0 s1 s2 s3 s4 s5 s6 s7 s8 s9 s10 s11 s12 s13 s14 s15 s16 s17 s18 s19 s20 s21 s22 s23 s24 s26 s27 s28 s29 s30 s31 s32 s33 s34 s35 s36 s37 s38 s39 s40 s41 s42 s43 s44 s45 s46 s47 s48 s49 s50 s51 s52 s53 s54 s55 s56 s57 s58 s59 s60 s61 s62 s63 s64 s65 s66 s67 s68 s69 s70 s71 s72 s73 s74 s75 s76 s77 s78 s79 s80 s81 s82 s83 s84 s85 s86 s87 s88 s89 s90 s91 s92 s93 s94 s95 s96 s97 s98 s99 s100 s101 s102 s103 s104 s105 s106 s107 s108 s109 s110 s111 s112 s113 s114 s115 s116 s117 s118 s119 s120 s121 s122 s123 s124 s125 s126 s127 s128 s129 s130 s131 s132 s133 s134 s135 s136 s137 s138 s139 s140 s141 s142 s143 s144 s145 s146 s147 s148 s149 s150 s151 s152 s153 s154 s158 s159 s160 s161 s162 s163 s164 s165 s166 s167 s168 s169 s170 s171 s172 s173 s174 s175 s176 s177 s178 s179 s180 s181 s182 s183 s184 s185 s186 s187 s188 s189 s190 s191 s192 s193 s194 s195 s196 s197 : Value} (pa : Option Addr) (ca : Nat) (A : List Req) (W : World) (Q : Exit → Act → World → Prop) (hT : RowIn encR W (.slice pa A.length ca) A) (lA : A.length ≤ 1000000)
    (hQ : ∀ (u27 u157 u158 u159 u160 u161 u162 u163 u164 u165 u166 u167 : Value)  (wx : World), RowKit.Below W.heap.size W wx → Q .normal ⟨List.toArray (s0 :: s1 :: s2 :: s3 :: s4 :: s5 :: s6 :: s7 :: s8 :: s9 :: s10 :: s11 :: s12 :: s13 :: s14 :: s15 :: s16 :: s17 :: s18 :: s19 :: s20 :: s21 :: s22 :: s23 :: s24 :: .bool (givesR A) :: s26 :: u27 :: s28 :: s29 :: s30 :: s31 :: s32 :: s33 :: s34 :: s35 :: s36 :: s37 :: s38 :: s39 :: s40 :: s41 :: s42 :: s43 :: s44 :: s45 :: s46 :: s47 :: s48 :: s49 :: s50 :: s51 :: s52 :: s53 :: s54 :: s55 :: s56 :: s57 :: s58 :: s59 :: s60 :: s61 :: s62 :: s63 :: s64 :: s65 :: s66 :: s67 :: s68 :: s69 :: s70 :: s71 :: s72 :: s73 :: s74 :: s75 :: s76 :: s77 :: s78 :: s79 :: s80 :: s81 :: s82 :: s83 :: s84 :: s85 :: s86 :: s87 :: s88 :: s89 :: s90 :: s91 :: s92 :: s93 :: s94 :: s95 :: s96 :: s97 :: s98 :: s99 :: s100 :: s101 :: s102 :: s103 :: s104 :: s105 :: s106 :: s107 :: s108 :: s109 :: s110 :: s111 :: s112 :: s113 :: s114 :: s115 :: s116 :: s117 :: s118 :: s119 :: s120 :: s121 :: s122 :: s123 :: s124 :: s125 :: s126 :: s127 :: s128 :: s129 :: s130 :: s131 :: s132 :: s133 :: s134 :: s135 :: s136 :: s137 :: s138 :: s139 :: s140 :: s141 :: s142 :: s143 :: s144 :: s145 :: s146 :: s147 :: s148 :: s149 :: s150 :: s151 :: s152 :: s153 :: s154 :: .slice pa A.length ca :: .int .i64 A.length :: u157 :: u158 :: u159 :: u160 :: u161 :: u162 :: u163 :: u164 :: u165 :: u166 :: u167 :: s168 :: s169 :: s170 :: s171 :: s172 :: s173 :: s174 :: s175 :: s176 :: s177 :: s178 :: s179 :: s180 :: s181 :: s182 :: s183 :: s184 :: s185 :: s186 :: s187 :: s188 :: s189 :: s190 :: s191 :: s192 :: s193 :: s194 :: s195 :: s196 :: s197 :: []), []⟩ wx) :
    (blockOf Tryz.f4 10).wp Tryz.prog Q ⟨List.toArray (s0 :: s1 :: s2 :: s3 :: s4 :: s5 :: s6 :: s7 :: s8 :: s9 :: s10 :: s11 :: s12 :: s13 :: s14 :: s15 :: s16 :: s17 :: s18 :: s19 :: s20 :: s21 :: s22 :: s23 :: s24 :: .bool false :: s26 :: s27 :: s28 :: s29 :: s30 :: s31 :: s32 :: s33 :: s34 :: s35 :: s36 :: s37 :: s38 :: s39 :: s40 :: s41 :: s42 :: s43 :: s44 :: s45 :: s46 :: s47 :: s48 :: s49 :: s50 :: s51 :: s52 :: s53 :: s54 :: s55 :: s56 :: s57 :: s58 :: s59 :: s60 :: s61 :: s62 :: s63 :: s64 :: s65 :: s66 :: s67 :: s68 :: s69 :: s70 :: s71 :: s72 :: s73 :: s74 :: s75 :: s76 :: s77 :: s78 :: s79 :: s80 :: s81 :: s82 :: s83 :: s84 :: s85 :: s86 :: s87 :: s88 :: s89 :: s90 :: s91 :: s92 :: s93 :: s94 :: s95 :: s96 :: s97 :: s98 :: s99 :: s100 :: s101 :: s102 :: s103 :: s104 :: s105 :: s106 :: s107 :: s108 :: s109 :: s110 :: s111 :: s112 :: s113 :: s114 :: s115 :: s116 :: s117 :: s118 :: s119 :: s120 :: s121 :: s122 :: s123 :: s124 :: s125 :: s126 :: s127 :: s128 :: s129 :: s130 :: s131 :: s132 :: s133 :: s134 :: s135 :: s136 :: s137 :: s138 :: s139 :: s140 :: s141 :: s142 :: s143 :: s144 :: s145 :: s146 :: s147 :: s148 :: s149 :: s150 :: s151 :: s152 :: s153 :: s154 :: .slice pa A.length ca :: .int .i64 A.length :: .int .i64 0 :: s158 :: s159 :: s160 :: s161 :: s162 :: s163 :: s164 :: s165 :: s166 :: s167 :: s168 :: s169 :: s170 :: s171 :: s172 :: s173 :: s174 :: s175 :: s176 :: s177 :: s178 :: s179 :: s180 :: s181 :: s182 :: s183 :: s184 :: s185 :: s186 :: s187 :: s188 :: s189 :: s190 :: s191 :: s192 :: s193 :: s194 :: s195 :: s196 :: s197 :: []), []⟩ W := by
  refine of_onlyN (K := Q .normal) ?_ (fun _ _ h => h)
  generalize Q .normal = K at hQ ⊢
  have HQ := Lib.hid hQ; clear hQ
  conv => arg 2; whnf
  have HT := Lib.hid hT
  clear hT
  go_wp2_with fail
  go_loopw [25, 157] (fun v i wr => ∃ (k : Nat) (gv : Bool), k ≤ A.length ∧ v = .bool gv ∧ i = .int .i64 k ∧ Hid (gv = givesR (A.take k)) ∧ RowKit.Below W.heap.size W wr) (fun _ i _ => A.length - (RowKit.intOf i).toNat)
  case atStart => exact ⟨0, false, Nat.zero_le _, rfl, rfl, Lib.hid rfl, Below.refl _ _⟩
  case round =>
    obtain ⟨k, gv, hk, rfl, rfl, HI, hbr⟩ := hrel
    by_cases hlt : k < A.length
    · obtain ⟨g, of, c', hv, _, hgl, hx⟩ := HT.out.at_ (k := 9) (fun _ => rfl) (by omega)
      have e1 := (Value.slice.inj hv).1
      subst e1
      have hz := List.getElem?_eq_getElem hlt
      have hat := hx k _ hz
      have HM := Lib.hid (List.getElem_mem hlt)
      have HTK := Lib.hid (take_one hz)
      generalize A[k] = r at hz hat HM HTK
      have hatk : wr.rangeAt g (of + k * 9) r.cells.toList := fun j v hj => by rw [hbr.cell (p := ⟨g, of + k * 9 + j, none⟩) hgl]; exact hat j v hj
      have hb4 : RowKit.Below W.heap.size W (wr.alloc (.cells #[.int .i64 r.server, .int .i64 r.seq, .bool r.cancel, .int .i64 r.student, .int .i64 r.term, .string r.code, .string r.give, .int .i64 r.priority, .int .i64 r.day] 39)) := hbr.alloc hbr.size _
      have hbx : ∀ j, (wr.alloc (.cells #[.int .i64 r.server, .int .i64 r.seq, .bool r.cancel, .int .i64 r.student, .int .i64 r.term, .string r.code, .string r.give, .int .i64 r.priority, .int .i64 r.day] 39)).cell? ⟨wr.heap.size, j, none⟩ = (#[.int .i64 r.server, .int .i64 r.seq, .bool r.cancel, .int .i64 r.student, .int .i64 r.term, .string r.code, .string r.give, .int .i64 r.priority, .int .i64 r.day] : Array Value)[j]? := fun j => Lib.cell_of_heap (heap_alloc_new wr _) j
      have i1 : (0 : Int) ≤ (k : Int) := by omega
      have i2 : (k : Int) < (A.length : Int) := by omega
      clear hv hx hz hat
      go_upto_region 45 with ((with_reducible refine wpList_load_mid (op := ⟨some 160, _, _, _, _, _⟩) ?_ 39 (.tmp 159) ?_ g (of + k * 9) ?_ r.cells.toList _ ?_ Tryz.underlying39 ?_ ?_ ?_); rfl; rfl; rfl; exact hatk; rfl; kernel_rfl)
      have hg6 : (wr.alloc (.cells #[.int .i64 r.server, .int .i64 r.seq, .bool r.cancel, .int .i64 r.student, .int .i64 r.term, .string r.code, .string r.give, .int .i64 r.priority, .int .i64 r.day] 39)).cell? ⟨wr.heap.size, 6, none⟩ = some (.string r.give) := hbx 6
      generalize wr.heap.size = rb at hg6 ⊢
      generalize wr.alloc _ = w4 at hb4 hg6 ⊢
      clear hatk hbx i1
      obtain ⟨t, hT⟩ : ∃ t, (!r.give.toList.isEmpty) = t := ⟨_, rfl⟩
      have HN : Hid ((gv || t) = givesR (A.take (k + 1))) := Lib.hid (by rw [HTK.out, gives_snoc, ← HI.out, ← hT, give_test])
      clear HTK HI
      cases gv <;> cases t
      all_goals go_wp2_with fail
      all_goals (refine ⟨⟨k + 1, _, by omega, rfl, by go_num, HN, hb4⟩, by simp [RowKit.intOf]; omega⟩)
    · obtain rfl : k = A.length := by omega
      have hgv := HI.out
      rw [List.take_length] at hgv
      subst hgv
      go_wp2_with fail
      exact HQ.out _ _ _ _ _ _ _ _ _ _ _ _ _ hbr

set_option maxHeartbeats 4000000 in
set_option maxRecDepth 100000 in
theorem pm_r51 {s0 s1 s2 s3 s4 s5 s6 s7 s9 s10 s11 s12 s13 s14 s15 s16 s17 s18 s19 s20 s21 s22 s23 s24 s26 s27 s28 s29 s31 s32 s33 s34 s35 s36 s37 s38 s39 s40 s41 s42 s43 s44 s45 s46 s47 s48 s49 s50 s51 s52 s53 s54 s55 s56 s57 s58 s59 s60 s61 s62 s63 s64 s65 s66 s67 s68 s69 s70 s71 s72 s73 s74 s75 s76 s77 s78 s79 s80 s81 s82 s83 s84 s85 s86 s87 s88 s89 s90 s91 s92 s93 s94 s95 s96 s97 s98 s99 s100 s101 s102 s103 s104 s105 s106 s107 s108 s109 s110 s111 s112 s113 s114 s115 s116 s117 s118 s119 s120 s121 s122 s123 s124 s125 s126 s127 s128 s129 s130 s131 s132 s133 s134 s135 s136 s137 s138 s139 s140 s141 s142 s143 s144 s145 s146 s147 s148 s149 s150 s151 s152 s153 s154 s155 s156 s157 s158 s159 s160 s161 s162 s163 s164 s165 s166 s167 s168 s169 s170 s171 s172 s173 s174 s175 s176 s177 s178 s179 s180 s181 s182 s183 s184 s185 s186 s187 s188 s189 s190 s191 s192 s193 s194 s195 s196 s197 : Value} (db sb : Nat) (pd pw : Option Addr) (cd cw : Nat) (gv : Bool) (D Wt : List Seat) (sx : Seat) (W : World) (Q : Exit → Act → World → Prop) (hrD : RowIn Seat.cells W (.slice pd D.length cd) D) (hrW : RowIn Seat.cells W (.slice pw Wt.length cw) Wt) (lD : D.length ≤ 1000) (lW : Wt.length ≤ 1000) (hdb : (db < W.heap.size ∧ ∀ j, W.cell? ⟨db, j, none⟩ = (#[.slice pd D.length cd, .slice pw Wt.length cw] : Array Value)[j]?)) (hs : (sb < W.heap.size ∧ ∀ j, W.cell? ⟨sb, j, none⟩ = (#[.int .i64 sx.student, .string sx.code] : Array Value)[j]?)) (hall : gv = false → sx ∈ D ∨ sx ∈ Wt)
    (hQ : ∀ (u180 u181 u182 u183 u184 u185 u186 u187 u188 u189 u190 u191 u192 u193 u194 : Value)  (wx : World), RowKit.Below W.heap.size W wx → Q .normal ⟨List.toArray (s0 :: s1 :: s2 :: s3 :: s4 :: s5 :: s6 :: s7 :: .pointer (some ⟨db, 0, none⟩) :: s9 :: s10 :: s11 :: s12 :: s13 :: s14 :: s15 :: s16 :: s17 :: s18 :: s19 :: s20 :: s21 :: s22 :: s23 :: s24 :: .bool gv :: s26 :: s27 :: s28 :: s29 :: .pointer (some ⟨sb, 0, none⟩) :: s31 :: s32 :: s33 :: s34 :: s35 :: s36 :: s37 :: s38 :: s39 :: s40 :: s41 :: s42 :: s43 :: s44 :: s45 :: s46 :: s47 :: s48 :: s49 :: s50 :: s51 :: s52 :: s53 :: s54 :: s55 :: s56 :: s57 :: s58 :: s59 :: s60 :: s61 :: s62 :: s63 :: s64 :: s65 :: s66 :: s67 :: s68 :: s69 :: s70 :: s71 :: s72 :: s73 :: s74 :: s75 :: s76 :: s77 :: s78 :: s79 :: s80 :: s81 :: s82 :: s83 :: s84 :: s85 :: s86 :: s87 :: s88 :: s89 :: s90 :: s91 :: s92 :: s93 :: s94 :: s95 :: s96 :: s97 :: s98 :: s99 :: s100 :: s101 :: s102 :: s103 :: s104 :: s105 :: s106 :: s107 :: s108 :: s109 :: s110 :: s111 :: s112 :: s113 :: s114 :: s115 :: s116 :: s117 :: s118 :: s119 :: s120 :: s121 :: s122 :: s123 :: s124 :: s125 :: s126 :: s127 :: s128 :: s129 :: s130 :: s131 :: s132 :: s133 :: s134 :: s135 :: s136 :: s137 :: s138 :: s139 :: s140 :: s141 :: s142 :: s143 :: s144 :: s145 :: s146 :: s147 :: s148 :: s149 :: s150 :: s151 :: s152 :: s153 :: s154 :: s155 :: s156 :: s157 :: s158 :: s159 :: s160 :: s161 :: s162 :: s163 :: s164 :: s165 :: s166 :: s167 :: s168 :: s169 :: s170 :: s171 :: s172 :: s173 :: s174 :: s175 :: s176 :: s177 :: s178 :: s179 :: u180 :: u181 :: u182 :: u183 :: u184 :: u185 :: u186 :: u187 :: u188 :: u189 :: u190 :: u191 :: u192 :: u193 :: u194 :: .bool false :: s196 :: s197 :: []), []⟩ wx) :
    (regionOf Tryz.f4 51).wp Tryz.prog Q ⟨List.toArray (s0 :: s1 :: s2 :: s3 :: s4 :: s5 :: s6 :: s7 :: .pointer (some ⟨db, 0, none⟩) :: s9 :: s10 :: s11 :: s12 :: s13 :: s14 :: s15 :: s16 :: s17 :: s18 :: s19 :: s20 :: s21 :: s22 :: s23 :: s24 :: .bool gv :: s26 :: s27 :: s28 :: s29 :: .pointer (some ⟨sb, 0, none⟩) :: s31 :: s32 :: s33 :: s34 :: s35 :: s36 :: s37 :: s38 :: s39 :: s40 :: s41 :: s42 :: s43 :: s44 :: s45 :: s46 :: s47 :: s48 :: s49 :: s50 :: s51 :: s52 :: s53 :: s54 :: s55 :: s56 :: s57 :: s58 :: s59 :: s60 :: s61 :: s62 :: s63 :: s64 :: s65 :: s66 :: s67 :: s68 :: s69 :: s70 :: s71 :: s72 :: s73 :: s74 :: s75 :: s76 :: s77 :: s78 :: s79 :: s80 :: s81 :: s82 :: s83 :: s84 :: s85 :: s86 :: s87 :: s88 :: s89 :: s90 :: s91 :: s92 :: s93 :: s94 :: s95 :: s96 :: s97 :: s98 :: s99 :: s100 :: s101 :: s102 :: s103 :: s104 :: s105 :: s106 :: s107 :: s108 :: s109 :: s110 :: s111 :: s112 :: s113 :: s114 :: s115 :: s116 :: s117 :: s118 :: s119 :: s120 :: s121 :: s122 :: s123 :: s124 :: s125 :: s126 :: s127 :: s128 :: s129 :: s130 :: s131 :: s132 :: s133 :: s134 :: s135 :: s136 :: s137 :: s138 :: s139 :: s140 :: s141 :: s142 :: s143 :: s144 :: s145 :: s146 :: s147 :: s148 :: s149 :: s150 :: s151 :: s152 :: s153 :: s154 :: s155 :: s156 :: s157 :: s158 :: s159 :: s160 :: s161 :: s162 :: s163 :: s164 :: s165 :: s166 :: s167 :: s168 :: s169 :: s170 :: s171 :: s172 :: s173 :: s174 :: s175 :: s176 :: s177 :: s178 :: s179 :: s180 :: s181 :: s182 :: s183 :: s184 :: s185 :: s186 :: s187 :: s188 :: s189 :: s190 :: s191 :: s192 :: s193 :: s194 :: s195 :: s196 :: s197 :: []), []⟩ W := by
  refine of_onlyN (K := Q .normal) ?_ (fun _ _ h => h)
  generalize Q .normal = K at hQ ⊢
  have HQ := Lib.hid hQ; clear hQ
  conv => arg 2; whnf
  have keepS : ∀ w', RowKit.Below W.heap.size W w' → RowKit.Below W.heap.size W w' ∧ (∀ j, w'.cell? ⟨db, j, none⟩ = (#[.slice pd D.length cd, .slice pw Wt.length cw] : Array Value)[j]?) ∧ (∀ j, w'.cell? ⟨sb, j, none⟩ = (#[.int .i64 sx.student, .string sx.code] : Array Value)[j]?) := fun w' hb => ⟨hb, fun j => (hb.cell (p := ⟨db, j, none⟩) hdb.1).trans (hdb.2 j), fun j => (hb.cell (p := ⟨sb, j, none⟩) hs.1).trans (hs.2 j)⟩
  have hS0 := keepS W (Below.refl W.heap.size W)
  have H0 := hS0.2.1
  have H1 := hS0.2.2
  have HD := Lib.hid hrD
  have HW := Lib.hid hrW
  have HA := Lib.hid hall
  clear hrD hrW hall
  cases gv
  · by_cases hm : sx ∈ D
    · go_wp2_with fail
      refine (hasSeat_any (.slice pd D.length cd) D sx W HD.out (by omega)).mono ?_
      rintro _ w2 ⟨rfl, hb2⟩
      rw [decide_eq_true hm]
      have hS2 := keepS w2 hb2
      go_wp2_with fail
      exact HQ.out _ _ _ _ _ _ _ _ _ _ _ _ _ _ _ _ hb2
    · have hw : sx ∈ Wt := by rcases HA.out rfl with h | h; exact absurd h hm; exact h
      go_wp2_with fail
      refine (hasSeat_any (.slice pd D.length cd) D sx W HD.out (by omega)).mono ?_
      rintro _ w2 ⟨rfl, hb2⟩
      rw [decide_eq_false hm]
      have hS2 := keepS w2 hb2
      have H2 := hS2.2.1
      have H3 := hS2.2.2
      go_wp2_with fail
      refine (hasSeat_any (.slice pw Wt.length cw) Wt sx w2 (HW.out.below hb2) (by omega)).mono ?_
      rintro _ w3 ⟨rfl, hb3⟩
      rw [decide_eq_true hw]
      have hb4 := below_next hb2 hb3
      go_wp2_with fail
      exact HQ.out _ _ _ _ _ _ _ _ _ _ _ _ _ _ _ _ hb4
  · go_wp2_with fail
    exact HQ.out _ _ _ _ _ _ _ _ _ _ _ _ _ _ _ _ (Below.refl _ _)

set_option maxHeartbeats 4000000 in
set_option maxRecDepth 100000 in
theorem pm_b12 {s0 s1 s2 s3 s4 s5 s6 s7 s9 s10 s11 s12 s13 s14 s15 s16 s17 s18 s19 s20 s21 s22 s23 s24 s26 s27 s28 s29 s30 s31 s32 s33 s34 s35 s36 s37 s38 s39 s40 s41 s42 s43 s44 s45 s46 s47 s48 s49 s50 s51 s52 s53 s54 s55 s56 s57 s58 s59 s60 s61 s62 s63 s64 s65 s66 s67 s68 s69 s70 s71 s72 s73 s74 s75 s76 s77 s78 s79 s80 s81 s82 s83 s84 s85 s86 s87 s88 s89 s90 s91 s92 s93 s94 s95 s96 s97 s98 s99 s100 s101 s102 s103 s104 s105 s106 s107 s108 s109 s110 s111 s112 s113 s114 s115 s116 s117 s118 s119 s120 s121 s122 s123 s124 s125 s126 s127 s128 s129 s130 s131 s132 s133 s134 s135 s136 s137 s138 s139 s140 s141 s142 s143 s144 s145 s146 s147 s148 s149 s150 s151 s152 s153 s154 s155 s156 s157 s158 s159 s160 s161 s162 s163 s164 s165 s166 s167 s168 s172 s173 s174 s175 s176 s177 s178 s179 s180 s181 s182 s183 s184 s185 s186 s187 s188 s189 s190 s191 s192 s193 s194 s195 s196 s197 : Value} (db : Nat) (pd pw pa : Option Addr) (cd cw ca : Nat) (gv : Bool) (D Wt : List Seat) (A : List Req) (W : World) (Q : Exit → Act → World → Prop) (hT : RowIn encR W (.slice pa A.length ca) A) (lA : A.length ≤ 1000000) (hrD : RowIn Seat.cells W (.slice pd D.length cd) D) (hrW : RowIn Seat.cells W (.slice pw Wt.length cw) Wt) (lD : D.length ≤ 1000) (lW : Wt.length ≤ 1000) (hdb : (db < W.heap.size ∧ ∀ j, W.cell? ⟨db, j, none⟩ = (#[.slice pd D.length cd, .slice pw Wt.length cw] : Array Value)[j]?)) (hall : gv = false → ∀ r ∈ A, seatOf r ∈ D ∨ seatOf r ∈ Wt)
    (hQ : ∀ (u2 u29 u30 u171 u172 u173 u174 u175 u176 u177 u178 u179 u180 u181 u182 u183 u184 u185 u186 u187 u188 u189 u190 u191 u192 u193 u194 u195 u196 : Value)  (wx : World), RowKit.Below W.heap.size W wx → Q .normal ⟨List.toArray (s0 :: s1 :: u2 :: s3 :: s4 :: s5 :: s6 :: s7 :: .pointer (some ⟨db, 0, none⟩) :: s9 :: s10 :: s11 :: s12 :: s13 :: s14 :: s15 :: s16 :: s17 :: s18 :: s19 :: s20 :: s21 :: s22 :: s23 :: s24 :: .bool gv :: s26 :: s27 :: s28 :: u29 :: u30 :: s31 :: s32 :: s33 :: s34 :: s35 :: s36 :: s37 :: s38 :: s39 :: s40 :: s41 :: s42 :: s43 :: s44 :: s45 :: s46 :: s47 :: s48 :: s49 :: s50 :: s51 :: s52 :: s53 :: s54 :: s55 :: s56 :: s57 :: s58 :: s59 :: s60 :: s61 :: s62 :: s63 :: s64 :: s65 :: s66 :: s67 :: s68 :: s69 :: s70 :: s71 :: s72 :: s73 :: s74 :: s75 :: s76 :: s77 :: s78 :: s79 :: s80 :: s81 :: s82 :: s83 :: s84 :: s85 :: s86 :: s87 :: s88 :: s89 :: s90 :: s91 :: s92 :: s93 :: s94 :: s95 :: s96 :: s97 :: s98 :: s99 :: s100 :: s101 :: s102 :: s103 :: s104 :: s105 :: s106 :: s107 :: s108 :: s109 :: s110 :: s111 :: s112 :: s113 :: s114 :: s115 :: s116 :: s117 :: s118 :: s119 :: s120 :: s121 :: s122 :: s123 :: s124 :: s125 :: s126 :: s127 :: s128 :: s129 :: s130 :: s131 :: s132 :: s133 :: s134 :: s135 :: s136 :: s137 :: s138 :: s139 :: s140 :: s141 :: s142 :: s143 :: s144 :: s145 :: s146 :: s147 :: s148 :: s149 :: s150 :: s151 :: s152 :: s153 :: s154 :: s155 :: s156 :: s157 :: s158 :: s159 :: s160 :: s161 :: s162 :: s163 :: s164 :: s165 :: s166 :: s167 :: s168 :: .slice pa A.length ca :: .int .i64 A.length :: u171 :: u172 :: u173 :: u174 :: u175 :: u176 :: u177 :: u178 :: u179 :: u180 :: u181 :: u182 :: u183 :: u184 :: u185 :: u186 :: u187 :: u188 :: u189 :: u190 :: u191 :: u192 :: u193 :: u194 :: u195 :: u196 :: s197 :: []), []⟩ wx) :
    (blockOf Tryz.f4 12).wp Tryz.prog Q ⟨List.toArray (s0 :: s1 :: s2 :: s3 :: s4 :: s5 :: s6 :: s7 :: .pointer (some ⟨db, 0, none⟩) :: s9 :: s10 :: s11 :: s12 :: s13 :: s14 :: s15 :: s16 :: s17 :: s18 :: s19 :: s20 :: s21 :: s22 :: s23 :: s24 :: .bool gv :: s26 :: s27 :: s28 :: s29 :: s30 :: s31 :: s32 :: s33 :: s34 :: s35 :: s36 :: s37 :: s38 :: s39 :: s40 :: s41 :: s42 :: s43 :: s44 :: s45 :: s46 :: s47 :: s48 :: s49 :: s50 :: s51 :: s52 :: s53 :: s54 :: s55 :: s56 :: s57 :: s58 :: s59 :: s60 :: s61 :: s62 :: s63 :: s64 :: s65 :: s66 :: s67 :: s68 :: s69 :: s70 :: s71 :: s72 :: s73 :: s74 :: s75 :: s76 :: s77 :: s78 :: s79 :: s80 :: s81 :: s82 :: s83 :: s84 :: s85 :: s86 :: s87 :: s88 :: s89 :: s90 :: s91 :: s92 :: s93 :: s94 :: s95 :: s96 :: s97 :: s98 :: s99 :: s100 :: s101 :: s102 :: s103 :: s104 :: s105 :: s106 :: s107 :: s108 :: s109 :: s110 :: s111 :: s112 :: s113 :: s114 :: s115 :: s116 :: s117 :: s118 :: s119 :: s120 :: s121 :: s122 :: s123 :: s124 :: s125 :: s126 :: s127 :: s128 :: s129 :: s130 :: s131 :: s132 :: s133 :: s134 :: s135 :: s136 :: s137 :: s138 :: s139 :: s140 :: s141 :: s142 :: s143 :: s144 :: s145 :: s146 :: s147 :: s148 :: s149 :: s150 :: s151 :: s152 :: s153 :: s154 :: s155 :: s156 :: s157 :: s158 :: s159 :: s160 :: s161 :: s162 :: s163 :: s164 :: s165 :: s166 :: s167 :: s168 :: .slice pa A.length ca :: .int .i64 A.length :: .int .i64 0 :: s172 :: s173 :: s174 :: s175 :: s176 :: s177 :: s178 :: s179 :: s180 :: s181 :: s182 :: s183 :: s184 :: s185 :: s186 :: s187 :: s188 :: s189 :: s190 :: s191 :: s192 :: s193 :: s194 :: s195 :: s196 :: s197 :: []), []⟩ W := by
  refine of_onlyN (K := Q .normal) ?_ (fun _ _ h => h)
  generalize Q .normal = K at hQ ⊢
  have HQ := Lib.hid hQ; clear hQ
  conv => arg 2; whnf
  have HT := Lib.hid hT
  have HD := Lib.hid hrD
  have HW := Lib.hid hrW
  have HA := Lib.hid hall
  clear hT hrD hrW hall
  go_wp2_with fail
  go_loopw [171] (fun i wr => ∃ k : Nat, k ≤ A.length ∧ i = .int .i64 k ∧ RowKit.Below W.heap.size W wr) (fun i _ => A.length - (RowKit.intOf i).toNat)
  case atStart => exact ⟨0, Nat.zero_le _, rfl, Below.refl _ _⟩
  case round =>
    obtain ⟨k, hk, rfl, hbr⟩ := hrel
    by_cases hlt : k < A.length
    · obtain ⟨g, of, c', hv, _, hgl, hx⟩ := HT.out.at_ (k := 9) (fun _ => rfl) (by omega)
      have e1 := (Value.slice.inj hv).1
      subst e1
      have hz := List.getElem?_eq_getElem hlt
      have hat := hx k _ hz
      have HM := Lib.hid (List.getElem_mem hlt)
      have HTK := Lib.hid (take_one hz)
      generalize A[k] = r at hz hat HM HTK
      have hatk : wr.rangeAt g (of + k * 9) r.cells.toList := fun j v hj => by rw [hbr.cell (p := ⟨g, of + k * 9 + j, none⟩) hgl]; exact hat j v hj
      have hb4 : RowKit.Below W.heap.size W (wr.alloc (.cells #[.int .i64 r.server, .int .i64 r.seq, .bool r.cancel, .int .i64 r.student, .int .i64 r.term, .string r.code, .string r.give, .int .i64 r.priority, .int .i64 r.day] 39)) := hbr.alloc hbr.size _
      have hbx : ∀ j, (wr.alloc (.cells #[.int .i64 r.server, .int .i64 r.seq, .bool r.cancel, .int .i64 r.student, .int .i64 r.term, .string r.code, .string r.give, .int .i64 r.priority, .int .i64 r.day] 39)).cell? ⟨wr.heap.size, j, none⟩ = (#[.int .i64 r.server, .int .i64 r.seq, .bool r.cancel, .int .i64 r.student, .int .i64 r.term, .string r.code, .string r.give, .int .i64 r.priority, .int .i64 r.day] : Array Value)[j]? := fun j => Lib.cell_of_heap (heap_alloc_new wr _) j
      have i1 : (0 : Int) ≤ (k : Int) := by omega
      have i2 : (k : Int) < (A.length : Int) := by omega
      clear hv hx hz hat
      go_upto_region 50 with ((with_reducible refine wpList_load_mid (op := ⟨some 174, _, _, _, _, _⟩) ?_ 39 (.tmp 173) ?_ g (of + k * 9) ?_ r.cells.toList _ ?_ Tryz.underlying39 ?_ ?_ ?_); rfl; rfl; rfl; exact hatk; rfl; kernel_rfl)
      have hg3 : (wr.alloc (.cells #[.int .i64 r.server, .int .i64 r.seq, .bool r.cancel, .int .i64 r.student, .int .i64 r.term, .string r.code, .string r.give, .int .i64 r.priority, .int .i64 r.day] 39)).cell? ⟨wr.heap.size, 3, none⟩ = some (.int .i64 r.student) := hbx 3
      have hg5 : (wr.alloc (.cells #[.int .i64 r.server, .int .i64 r.seq, .bool r.cancel, .int .i64 r.student, .int .i64 r.term, .string r.code, .string r.give, .int .i64 r.priority, .int .i64 r.day] 39)).cell? ⟨wr.heap.size, 5, none⟩ = some (.string r.code) := hbx 5
      generalize wr.heap.size = rb at hg3 hg5 ⊢
      generalize wr.alloc _ = w4 at hb4 hg3 hg5 ⊢
      clear hatk hbx i1 HTK
      go_wp2_with fail
      refine (seat_any r.student r.code w4).mono ?_
      rintro _ w5 ⟨rfl, hb5⟩
      have hb6 := below_next hb4 hb5
      clear hb5 hb4 hg3 hg5
      go_upto_region 51 with fail
      have hba := below_alloc1 w5 (.cells #[.int .i64 r.student, .string r.code] 54)
      have hsb : w5.heap.size < (w5.alloc (.cells #[.int .i64 r.student, .string r.code] 54)).heap.size ∧ ∀ j, (w5.alloc (.cells #[.int .i64 r.student, .string r.code] 54)).cell? ⟨w5.heap.size, j, none⟩ = (#[.int .i64 r.student, .string r.code] : Array Value)[j]? := ⟨by simp, fun j => Lib.cell_of_heap (heap_alloc_new w5 _) j⟩
      have hb7 := below_next hb6 hba
      generalize w5.heap.size = sb at hsb ⊢
      generalize w5.alloc _ = w6 at hsb hb7 ⊢
      clear hba hb6
      have hdb6 : db < w6.heap.size ∧ ∀ j, w6.cell? ⟨db, j, none⟩ = (#[.slice pd D.length cd, .slice pw Wt.length cw] : Array Value)[j]? := ⟨Nat.lt_of_lt_of_le hdb.1 hb7.size, fun j => (hb7.cell (p := ⟨db, j, none⟩) hdb.1).trans (hdb.2 j)⟩
      refine pm_r51 db sb pd pw cd cw gv D Wt (seatOf r) w6 _ (HD.out.below hb7) (HW.out.below hb7) lD lW hdb6 hsb (fun e => HA.out e r HM.out) ?_
      intro u180 u181 u182 u183 u184 u185 u186 u187 u188 u189 u190 u191 u192 u193 u194 w7 hb8
      have hb9 := below_next hb7 hb8
      clear hdb6 hsb hb8 hb7
      go_wp2_with fail
      exact ⟨⟨k + 1, by omega, by go_num, hb9⟩, by simp [RowKit.intOf]; omega⟩
    · obtain rfl : k = A.length := by omega
      go_wp2_with fail
      exact HQ.out _ _ _ _ _ _ _ _ _ _ _ _ _ _ _ _ _ _ _ _ _ _ _ _ _ _ _ _ _ _ hbr
end Go.Proofs.YtbihaoadgcckhaaGreat
