/- api.Seat and api.Offer as values: cells, rows, ==, keys of maps. -/
import Derived.Test.YteopjiedjnaeiaaGreatDgae
import Derived.Test.YteopjiedjnaeiaaGreatDgak
import Derived.Test.YteopjiedjnaeiaaGreatDgac
import Derived.Test.YteopjiedjnaeiaaGreatDgai
import Derived.Test.YteopjiedjnaeiaaGreatDgaj
import Derived.Test.YteopjiedjnaeiaaGreatDgah
import Derived.Test.YteopjiedjnaeiaaGreatDgaa
import Derived.Test.YteopjiedjnaeiaaGreatDgag
import Derived.StringKeys
/- The reference's put, walked. -/
namespace Go.Proofs.YteopjiedjnaeiaaGreat
open Go Go.Proofs Go.RowKit Go.Sort Go.Lib
attribute [local go_sem] Req.cells
attribute [local go_sem ↓] req_eql_cells req_neq_cells

/-- What put leaves. -/
def PutPost (L : List Req) (r : Req) (w : World) (e : Ending) (w' : World) : Prop := ∃ v' M', e = .returned v' ∧ IsSet M' (L ++ [r]) ∧ M'.length ≤ L.length + 1 ∧ ReqsIn w' v' M' ∧ RowKit.Below w.heap.size w w'
theorem put_len {M L : List Req} (h : IsSet M L) : M.length ≤ L.length :=
  nodup_le M L (h.1.imp fun {a b} hlt e => by subst e; exact cmpR_irr _ hlt) fun r hr => (h.2 r).1 hr

set_option maxHeartbeats 8000000 in
set_option maxRecDepth 100000 in
theorem put_some (b o c : Nat) (M L : List Req) (r : Req) (w : World) (hv : ReqsIn w (.slice (some ⟨b, o, none⟩) M.length c) M) (hlc : M.length ≤ c) (hM : IsSet M L) (hl : M.length ≤ 1000) :
    Calls Tryz.prog 61 #[.slice (some ⟨b, o, none⟩) M.length c, r.val] w (PutPost L r w) := by
  have HV := Lib.hid hv
  have HM := Lib.hid hM
  clear hv hM
  have hbx : ReqBox (w.alloc (.cells r.cells 39)) w.heap.size r := ReqBox.new w r
  have hb1 : RowKit.Below w.heap.size w (w.alloc (.cells r.cells 39)) := (Below.refl _ w).alloc (Nat.le_refl _) _
  go_enter Tryz.func61, Tryz.ntmps61
  go_wp2_with fail
  go_loopw [5] (fun i wr => ∃ k : Nat, k ≤ M.length ∧ i = .int .i64 k ∧ Hid (∀ y ∈ M.drop k, ¬ cmpR y r < 0) ∧ ReqBox wr w.heap.size r ∧ RowKit.Below w.heap.size w wr) (fun i _ => (RowKit.intOf i).toNat)
  case atStart => exact ⟨M.length, Nat.le_refl _, rfl, Lib.hid (by simp), hbx, hb1⟩
  case round =>
    clear hbx hb1
    obtain ⟨k, hk, rfl, HD, hbox, hB⟩ := hrel
    by_cases hk0 : 0 < k
    · obtain ⟨g, o', c', hv', _, hgl, hat⟩ := HV.out.at_ (by omega)
      have e1 := (Value.slice.inj hv').1
      simp only [Option.some.injEq, Addr.mk.injEq, and_true] at e1
      obtain ⟨e1, e2⟩ := e1
      subst e1 e2
      have hx := List.getElem?_eq_getElem (show k - 1 < M.length by omega)
      generalize M[k - 1] = x at hx
      have hatx := (hat (k - 1) x hx).below hB hgl
      have HX := Lib.hid hx
      clear hx hat hv'
      have cl := fun w => rfLess_any x r w
      have HC : Hid (lessR x r = decide (cmpR x r < 0)) := Lib.hid rfl
      generalize lessR x r = t at cl HC
      have hkz : IntKind.i64.wrap ((k : Int) - 1) = ((k - 1 : Nat) : Int) := by rw [IntWalk.i64_in _ (by omega)]; omega
      have hkb : (0 : Int) ≤ ((k - 1 : Nat) : Int) := by omega
      have hkc : ((k - 1 : Nat) : Int) < (M.length : Int) := by omega
      have hkd : (k : Int) > 0 := by omega
      have hgw : b < wr.heap.size := Nat.lt_of_lt_of_le hgl hB.size
      have hSof : ∀ w', RowKit.Below wr.heap.size wr w' → RowKit.Below wr.heap.size wr w' ∧ (∀ j, w'.cell? ⟨w.heap.size, j, none⟩ = r.cells[j]?) ∧ w'.cell? ⟨b, o + (k - 1) * 9, none⟩ = some (.int .i64 x.server) ∧ w'.cell? ⟨b, o + (k - 1) * 9 + 1, none⟩ = some (.int .i64 x.seq) ∧ w'.cell? ⟨b, o + (k - 1) * 9 + 2, none⟩ = some (.bool x.cancel) ∧ w'.cell? ⟨b, o + (k - 1) * 9 + 3, none⟩ = some (.int .i64 x.student) ∧ w'.cell? ⟨b, o + (k - 1) * 9 + 4, none⟩ = some (.int .i64 x.term) ∧ w'.cell? ⟨b, o + (k - 1) * 9 + 5, none⟩ = some (.string x.code) ∧ w'.cell? ⟨b, o + (k - 1) * 9 + 6, none⟩ = some (.string x.give) ∧ w'.cell? ⟨b, o + (k - 1) * 9 + 7, none⟩ = some (.int .i64 x.priority) ∧ w'.cell? ⟨b, o + (k - 1) * 9 + 8, none⟩ = some (.int .i64 x.day) := fun w' hB1 => by
        have hbox1 := hbox.below hB1
        have hatx1 := hatx.below hB1 hgw
        exact ⟨hB1, hbox1.cell, hatx1.cell 0 rfl, hatx1.cell 1 rfl, hatx1.cell 2 rfl, hatx1.cell 3 rfl, hatx1.cell 4 rfl, hatx1.cell 5 rfl, hatx1.cell 6 rfl, hatx1.cell 7 rfl, hatx1.cell 8 rfl⟩
      have hS0 := hSof wr.drew (Below.refl _ _).drew
      go_wp2_with fail
      go_region_held3 (fun w' => RowKit.Below wr.heap.size wr w' ∧ (∀ j, w'.cell? ⟨w.heap.size, j, none⟩ = r.cells[j]?) ∧ w'.cell? ⟨b, o + (k - 1) * 9, none⟩ = some (.int .i64 x.server) ∧ w'.cell? ⟨b, o + (k - 1) * 9 + 1, none⟩ = some (.int .i64 x.seq) ∧ w'.cell? ⟨b, o + (k - 1) * 9 + 2, none⟩ = some (.bool x.cancel) ∧ w'.cell? ⟨b, o + (k - 1) * 9 + 3, none⟩ = some (.int .i64 x.student) ∧ w'.cell? ⟨b, o + (k - 1) * 9 + 4, none⟩ = some (.int .i64 x.term) ∧ w'.cell? ⟨b, o + (k - 1) * 9 + 5, none⟩ = some (.string x.code) ∧ w'.cell? ⟨b, o + (k - 1) * 9 + 6, none⟩ = some (.string x.give) ∧ w'.cell? ⟨b, o + (k - 1) * 9 + 7, none⟩ = some (.int .i64 x.priority) ∧ w'.cell? ⟨b, o + (k - 1) * 9 + 8, none⟩ = some (.int .i64 x.day)) (first | exact hS0 | assumption)
        (first | ((with_reducible refine (cl _).mono ?_); rintro _ w3 ⟨rfl, hb3⟩; have hS1 := hSof w3 (hS0.1.trans (hb3.mono hS0.1.size))))
      have hB3 : RowKit.Below w.heap.size w w3 := hB.trans (hS1.1.mono hB.size)
      have hbox3 := hbox.below hS1.1
      clear hS0 hSof hb3 cl
      cases t
      · have HD' : Hid (∀ y ∈ M.drop (k - 1), ¬ cmpR y r < 0) := Lib.hid (by
          intro y hy
          have e : M.drop (k - 1) = x :: M.drop k := by
            have hx := HX.out
            obtain ⟨hlt, rfl⟩ := List.getElem?_eq_some_iff.1 hx
            have := (List.getElem_cons_drop hlt).symm
            rwa [show k - 1 + 1 = k by omega] at this
          rw [e] at hy
          rcases List.mem_cons.1 hy with rfl | hy
          · have := HC.out; simpa using this
          · have := HD.out y hy; omega)
        clear hS1 hbox hB hatx
        go_wp2_with fail
        go_roundw
        case rel => exact ⟨k - 1, by omega, rfl, HD', hbox3, hB3⟩
        case measure => simp [RowKit.intOf]; omega
      · clear hS1 hbox hB hatx hkz hkb hkc hkd hgw
        have HLO := Lib.hid (put_lo HM.out r k hk (fun z _ hz => by rw [HX.out] at hz; obtain rfl := Option.some.inj hz; have := HC.out; simpa using this))
        have HHI := Lib.hid (HD.out)
        by_cases hkn : k < M.length
        · obtain ⟨g', o', c'', hv', _, hgl', hat⟩ := HV.out.at_ (by omega)
          have hy := List.getElem?_eq_getElem hkn
          generalize M[k] = y at hy
          have e1 := (Value.slice.inj hv').1
          simp only [Option.some.injEq, Addr.mk.injEq, and_true] at e1
          obtain ⟨e1, e2⟩ := e1
          subst e1 e2
          have haty := (hat k y hy).below hB3 hgl'
          have HY := Lib.hid hy
          have hke : (k : Int) < (M.length : Int) := by omega
          clear hy hat hv'
          have cy0 : w3.cell? ⟨b, o + k * 9, none⟩ = some (.int .i64 y.server) := haty.cell 0 rfl
          have cy1 : w3.cell? ⟨b, o + k * 9 + 1, none⟩ = some (.int .i64 y.seq) := haty.cell 1 rfl
          have cy2 : w3.cell? ⟨b, o + k * 9 + 2, none⟩ = some (.bool y.cancel) := haty.cell 2 rfl
          have cy3 : w3.cell? ⟨b, o + k * 9 + 3, none⟩ = some (.int .i64 y.student) := haty.cell 3 rfl
          have cy4 : w3.cell? ⟨b, o + k * 9 + 4, none⟩ = some (.int .i64 y.term) := haty.cell 4 rfl
          have cy5 : w3.cell? ⟨b, o + k * 9 + 5, none⟩ = some (.string y.code) := haty.cell 5 rfl
          have cy6 : w3.cell? ⟨b, o + k * 9 + 6, none⟩ = some (.string y.give) := haty.cell 6 rfl
          have cy7 : w3.cell? ⟨b, o + k * 9 + 7, none⟩ = some (.int .i64 y.priority) := haty.cell 7 rfl
          have cy8 : w3.cell? ⟨b, o + k * 9 + 8, none⟩ = some (.int .i64 y.day) := haty.cell 8 rfl
          have cr0 : w3.cell? ⟨w.heap.size, 0, none⟩ = some (.int .i64 r.server) := hbox3.cell 0
          have cr1 : w3.cell? ⟨w.heap.size, 1, none⟩ = some (.int .i64 r.seq) := hbox3.cell 1
          have cr2 : w3.cell? ⟨w.heap.size, 2, none⟩ = some (.bool r.cancel) := hbox3.cell 2
          have cr3 : w3.cell? ⟨w.heap.size, 3, none⟩ = some (.int .i64 r.student) := hbox3.cell 3
          have cr4 : w3.cell? ⟨w.heap.size, 4, none⟩ = some (.int .i64 r.term) := hbox3.cell 4
          have cr5 : w3.cell? ⟨w.heap.size, 5, none⟩ = some (.string r.code) := hbox3.cell 5
          have cr6 : w3.cell? ⟨w.heap.size, 6, none⟩ = some (.string r.give) := hbox3.cell 6
          have cr7 : w3.cell? ⟨w.heap.size, 7, none⟩ = some (.int .i64 r.priority) := hbox3.cell 7
          have cr8 : w3.cell? ⟨w.heap.size, 8, none⟩ = some (.int .i64 r.day) := hbox3.cell 8
          have HQ : Hid (eqReq ⟨y.server, y.seq, y.cancel, y.student, y.term, y.code, y.give, y.priority, y.day⟩ ⟨r.server, r.seq, r.cancel, r.student, r.term, r.code, r.give, r.priority, r.day⟩ = true ↔ y = r) := Lib.hid (eqReq_iff y r)
          clear haty
          go_wp2_with fail
          go_quiet (fail)
          generalize eqReq ⟨y.server, y.seq, y.cancel, y.student, y.term, y.code, y.give, y.priority, y.day⟩ ⟨r.server, r.seq, r.cancel, r.student, r.term, r.code, r.give, r.priority, r.day⟩ = q at HQ ⊢
          have hB4 : RowKit.Below w.heap.size w (w3.drewN nq) := hB3.trans ⟨rfl, rfl, rfl, Nat.le_refl _, fun _ _ => rfl⟩
          have hbox4 : ReqBox (w3.drewN nq) w.heap.size r := hbox3
          clear cy0 cy1 cy2 cy3 cy4 cy5 cy6 cy7 cy8 cr0 cr1 cr2 cr3 cr4 cr5 cr6 cr7 cr8
          cases q
          · have HN : Hid (M[k]? ≠ some r) := Lib.hid (by rw [HY.out]; intro e; exact absurd (HQ.out.2 (Option.some.inj e)) (by simp))
            go_wp2_with fail
            refine put_r6 b o c k w.heap.size M r _ _ (HV.out.below hB4) (by omega) hlc (by omega) hbox4 ?_
            intro u4 u35 u36 u37 u38 u39 u40 u41 u42 u43 u44 u45 u46 wx hQ
            obtain ⟨hb5, hin⟩ := hQ
            have hBx : RowKit.Below w.heap.size w wx := hB4.trans (hb5.mono hB4.size)
            go_wp2_with fail
            go_ret
            exact ⟨_, _, rfl, put_new HM.out r k HLO.out (fun y hy => by have := HHI.out y hy; omega) HN.out, by have := put_len HM.out; simp; omega, hin, hBx⟩
          · go_wp2_with fail
            go_ret
            have er := HQ.out.1 (by first | trivial | rfl)
            subst er
            exact ⟨_, M, rfl, put_old HM.out _ (List.mem_of_getElem? HY.out), by have := put_len HM.out; omega, HV.out.below hB4, hB4⟩
        · obtain hkm : M.length = k := by omega
          have HKM := Lib.hid hkm
          have hke : ¬ ((k : Int) < (M.length : Int)) := by omega
          have HN : Hid (M[k]? ≠ some r) := Lib.hid (by rw [List.getElem?_eq_none (by omega)]; simp)
          clear hkm
          go_wp2_with fail
          go_quiet (fail)
          have hB4 : RowKit.Below w.heap.size w (w3.drewN nq) := hB3.trans ⟨rfl, rfl, rfl, Nat.le_refl _, fun _ _ => rfl⟩
          have hbox4 : ReqBox (w3.drewN nq) w.heap.size r := hbox3
          go_wp2_with fail
          refine put_r6 b o c k w.heap.size M r _ _ (HV.out.below hB4) (by omega) hlc (by omega) hbox4 ?_
          intro u4 u35 u36 u37 u38 u39 u40 u41 u42 u43 u44 u45 u46 wx hQ
          obtain ⟨hb5, hin⟩ := hQ
          have hBx : RowKit.Below w.heap.size w wx := hB4.trans (hb5.mono hB4.size)
          go_wp2_with fail
          go_ret
          exact ⟨_, _, rfl, put_new HM.out r k HLO.out (fun y hy => by have := HHI.out y hy; omega) HN.out, by have := put_len HM.out; simp; omega, hin, hBx⟩
    · obtain rfl : k = 0 := by omega
      go_wp2_with fail
      go_quiet (fail)
      have hB3 : RowKit.Below w.heap.size w (wr.drewN nq) := hB.trans ⟨rfl, rfl, rfl, Nat.le_refl _, fun _ _ => rfl⟩
      have hbox3 : ReqBox (wr.drewN nq) w.heap.size r := hbox
      clear hB hbox
      generalize wr.drewN nq = w3 at hB3 hbox3 ⊢
      have HLO := Lib.hid ((by simp : ∀ x ∈ M.take 0, cmpR x r < 0))
      have HHI := Lib.hid (HD.out)
      by_cases hkn : 0 < M.length
      · obtain ⟨g', o', c'', hv', _, hgl', hat⟩ := HV.out.at_ (by omega)
        have hy := List.getElem?_eq_getElem hkn
        generalize M[0] = y at hy
        have e1 := (Value.slice.inj hv').1
        simp only [Option.some.injEq, Addr.mk.injEq, and_true] at e1
        obtain ⟨e1, e2⟩ := e1
        subst e1 e2
        have haty := (hat 0 y hy).below hB3 hgl'
        have HY := Lib.hid hy
        have hke : (0 : Int) < (M.length : Int) := by omega
        clear hy hat hv'
        rw [Nat.zero_mul, Nat.add_zero] at haty
        have cy0 : w3.cell? ⟨b, o, none⟩ = some (.int .i64 y.server) := haty.cell 0 rfl
        have cy1 : w3.cell? ⟨b, o + 1, none⟩ = some (.int .i64 y.seq) := haty.cell 1 rfl
        have cy2 : w3.cell? ⟨b, o + 2, none⟩ = some (.bool y.cancel) := haty.cell 2 rfl
        have cy3 : w3.cell? ⟨b, o + 3, none⟩ = some (.int .i64 y.student) := haty.cell 3 rfl
        have cy4 : w3.cell? ⟨b, o + 4, none⟩ = some (.int .i64 y.term) := haty.cell 4 rfl
        have cy5 : w3.cell? ⟨b, o + 5, none⟩ = some (.string y.code) := haty.cell 5 rfl
        have cy6 : w3.cell? ⟨b, o + 6, none⟩ = some (.string y.give) := haty.cell 6 rfl
        have cy7 : w3.cell? ⟨b, o + 7, none⟩ = some (.int .i64 y.priority) := haty.cell 7 rfl
        have cy8 : w3.cell? ⟨b, o + 8, none⟩ = some (.int .i64 y.day) := haty.cell 8 rfl
        have cr0 : w3.cell? ⟨w.heap.size, 0, none⟩ = some (.int .i64 r.server) := hbox3.cell 0
        have cr1 : w3.cell? ⟨w.heap.size, 1, none⟩ = some (.int .i64 r.seq) := hbox3.cell 1
        have cr2 : w3.cell? ⟨w.heap.size, 2, none⟩ = some (.bool r.cancel) := hbox3.cell 2
        have cr3 : w3.cell? ⟨w.heap.size, 3, none⟩ = some (.int .i64 r.student) := hbox3.cell 3
        have cr4 : w3.cell? ⟨w.heap.size, 4, none⟩ = some (.int .i64 r.term) := hbox3.cell 4
        have cr5 : w3.cell? ⟨w.heap.size, 5, none⟩ = some (.string r.code) := hbox3.cell 5
        have cr6 : w3.cell? ⟨w.heap.size, 6, none⟩ = some (.string r.give) := hbox3.cell 6
        have cr7 : w3.cell? ⟨w.heap.size, 7, none⟩ = some (.int .i64 r.priority) := hbox3.cell 7
        have cr8 : w3.cell? ⟨w.heap.size, 8, none⟩ = some (.int .i64 r.day) := hbox3.cell 8
        have HQ : Hid (eqReq ⟨y.server, y.seq, y.cancel, y.student, y.term, y.code, y.give, y.priority, y.day⟩ ⟨r.server, r.seq, r.cancel, r.student, r.term, r.code, r.give, r.priority, r.day⟩ = true ↔ y = r) := Lib.hid (eqReq_iff y r)
        clear haty
        go_wp2_with fail
        go_quiet (fail)
        generalize eqReq ⟨y.server, y.seq, y.cancel, y.student, y.term, y.code, y.give, y.priority, y.day⟩ ⟨r.server, r.seq, r.cancel, r.student, r.term, r.code, r.give, r.priority, r.day⟩ = q at HQ ⊢
        have hB4 : RowKit.Below w.heap.size w (w3.drewN nq) := hB3.trans ⟨rfl, rfl, rfl, Nat.le_refl _, fun _ _ => rfl⟩
        have hbox4 : ReqBox (w3.drewN nq) w.heap.size r := hbox3
        clear cy0 cy1 cy2 cy3 cy4 cy5 cy6 cy7 cy8 cr0 cr1 cr2 cr3 cr4 cr5 cr6 cr7 cr8
        cases q
        · have HN : Hid (M[0]? ≠ some r) := Lib.hid (by rw [HY.out]; intro e; exact absurd (HQ.out.2 (Option.some.inj e)) (by simp))
          go_wp2_with fail
          refine put_r6 b o c 0 w.heap.size M r _ _ (HV.out.below hB4) (by omega) hlc (by omega) hbox4 ?_
          intro u4 u35 u36 u37 u38 u39 u40 u41 u42 u43 u44 u45 u46 wx hQ
          obtain ⟨hb5, hin⟩ := hQ
          have hBx : RowKit.Below w.heap.size w wx := hB4.trans (hb5.mono hB4.size)
          go_wp2_with fail
          go_ret
          exact ⟨_, _, rfl, put_new HM.out r 0 HLO.out (fun y hy => by have := HHI.out y hy; omega) HN.out, by have := put_len HM.out; simp; omega, hin, hBx⟩
        · go_wp2_with fail
          go_ret
          have er := HQ.out.1 (by first | trivial | rfl)
          subst er
          exact ⟨_, M, rfl, put_old HM.out _ (List.mem_of_getElem? HY.out), by have := put_len HM.out; omega, HV.out.below hB4, hB4⟩
      · obtain hkm : M.length = 0 := by omega
        have HKM := Lib.hid hkm
        have hke : ¬ ((0 : Int) < (M.length : Int)) := by omega
        have HN : Hid (M[0]? ≠ some r) := Lib.hid (by rw [List.getElem?_eq_none (by omega)]; simp)
        clear hkm
        go_wp2_with fail
        go_quiet (fail)
        have hB4 : RowKit.Below w.heap.size w (w3.drewN nq) := hB3.trans ⟨rfl, rfl, rfl, Nat.le_refl _, fun _ _ => rfl⟩
        have hbox4 : ReqBox (w3.drewN nq) w.heap.size r := hbox3
        go_wp2_with fail
        refine put_r6 b o c 0 w.heap.size M r _ _ (HV.out.below hB4) (by omega) hlc (by omega) hbox4 ?_
        intro u4 u35 u36 u37 u38 u39 u40 u41 u42 u43 u44 u45 u46 wx hQ
        obtain ⟨hb5, hin⟩ := hQ
        have hBx : RowKit.Below w.heap.size w wx := hB4.trans (hb5.mono hB4.size)
        go_wp2_with fail
        go_ret
        exact ⟨_, _, rfl, put_new HM.out r 0 HLO.out (fun y hy => by have := HHI.out y hy; omega) HN.out, by have := put_len HM.out; simp; omega, hin, hBx⟩

set_option maxHeartbeats 8000000 in
set_option maxRecDepth 100000 in
theorem put_nil (L : List Req) (r : Req) (w : World) (hM : IsSet [] L) :
    Calls Tryz.prog 61 #[.slice none 0 0, r.val] w (PutPost L r w) := by
  have HM := Lib.hid hM
  clear hM
  have hbx : ReqBox (w.alloc (.cells r.cells 39)) w.heap.size r := ReqBox.new w r
  have hb1 : RowKit.Below w.heap.size w (w.alloc (.cells r.cells 39)) := (Below.refl _ w).alloc (Nat.le_refl _) _
  go_enter Tryz.func61, Tryz.ntmps61
  go_wp2_with fail
  refine wp_loop_rounds 1 ?_
  rw [rounds_succ]
  go_wp2_with fail
  go_quiet (fail)
  go_wp2_with fail
  go_quiet (fail)
  go_wp2_with fail
  refine put_r6n w.heap.size r _ _ hbx ?_
  intro u4 u35 u36 u37 u38 u39 u40 u41 u42 u43 u44 u45 u46 wx hQ
  obtain ⟨hb5, hin⟩ := hQ
  have hBx : RowKit.Below w.heap.size w wx := by
    refine RowKit.Below.trans ?_ (hb5.mono hb1.size)
    exact hb1.trans ⟨rfl, rfl, rfl, Nat.le_refl _, fun _ _ => rfl⟩
  go_wp2_with fail
  go_ret
  exact ⟨_, _, rfl, put_new HM.out r 0 (by simp) (by simp) (by simp), by simp, hin, hBx⟩
theorem put_any (v : Value) (M L : List Req) (r : Req) (w : World) (hv : ReqsIn w v M) (hM : IsSet M L) (hl : M.length ≤ 1000) :
    Calls Tryz.prog 61 #[v, r.val] w (PutPost L r w) := by
  rcases id hv with ⟨rfl, rfl⟩ | ⟨b, o, c, rfl, h2, _⟩
  · exact put_nil L r w hM
  · exact put_some b o c M L r w hv h2 hM hl
end Go.Proofs.YteopjiedjnaeiaaGreat
/- Case.made: three lists of requests, the first with a changed one behind it. -/
namespace Go.Proofs.YteopjiedjnaeiaaGreat
open Go Go.Proofs Go.RowKit Go.Sort Go.Lib

theorem IntsIn.up {B B' : Nat} {S : Option Addr} {N : Nat} {w : World} (h : IntsIn B S N w) (hB : B ≤ B') : IntsIn B' S N w :=
  ⟨h.1, fun j hj => by
    obtain ⟨b, off, z, hA, hb, hc, hz⟩ := h.2 j hj
    exact ⟨b, off, z, hA, Nat.lt_of_lt_of_le hb hB, hc, hz⟩⟩
theorem IntssIn.at_ {S : Option Addr} {N : Nat} {w w' : World} (h : IntssIn w.heap.size S N w) (hb : RowKit.Below w.heap.size w w') : IntssIn w'.heap.size S N w' :=
  ⟨h.1, fun j hj => by
    obtain ⟨b, off, A, n, c, hA, hB, hc, hi⟩ := (h.below hb).2 j hj
    exact ⟨b, off, A, n, c, hA, Nat.lt_of_lt_of_le hB hb.size, hc, hi.up hb.size⟩⟩
theorem flow_req_at {ops : Array Oper} {Q : Exit → Act → World → Prop} {S : World → Prop} {i : Nat} {σ : List (Nat × Bool)} {a : Act} {w : World} (oi : Oper) (e : Req) (b o : Nat) (hi : ops[i]? = some oi) (hw : Region.wanted oi (yielded ops a.tmps) = true)
    (p : Operand) (ho : oi.op = .load 39 p) (hp : a.eval p = .pointer (some ⟨b, o, none⟩)) (hc : ∀ w, S w → ReqAt w b o e)
    (h : wpFlow Tryz.prog ops Q S σ (a.put oi.dst e.val) w) : wpFlow Tryz.prog ops Q S ((i, true) :: σ) a w :=
  flow_take oi e.val hi hw (fun w hS => by
    have hl := req_load w b o e (hc w hS)
    unfold execOp
    simp only [ho, hp, Sem.run_bind, Sem.run_pure, hl, Result.andThen_ok]) h
theorem own_formR {base : Nat} {w : World} {v : Value} {L : List Req} (h : w.ownsRow base 39 9 v L.length (reqCells L)) (hl : 0 < L.length) : ∃ g cap, v = .slice (some ⟨g, 0, none⟩) L.length cap := by
  rcases h.2 with ⟨_, h0⟩ | ⟨g, cap, cur, rfl, _⟩
  · omega
  · exact ⟨g, cap, rfl⟩
theorem own_nil {base : Nat} {w : World} {v : Value} {L : List Req} (h : w.ownsRow base 39 9 v L.length (reqCells L)) : ∃ S cap, v = .slice S L.length cap := by
  rcases h.2 with ⟨rfl, h0⟩ | ⟨g, cap, cur, rfl, _⟩
  · exact ⟨none, 0, by rw [h0]⟩
  · exact ⟨_, cap, rfl⟩
/-- What 'made' leaves. -/
structure CaseOk (w : World) (va vb vd : Value) (A B D : List Req) (w' : World) : Prop where
  a : w'.ownsRow w.heap.size 39 9 va A.length (reqCells A)
  b : ReqsIn w' vb B
  d : w'.ownsRow w.heap.size 39 9 vd D.length (reqCells D)
  ne : ∀ q, vd.ownBlock = some q → va.ownBlock ≠ some q ∧ vb.ownBlock ≠ some q
  la : A.length ≤ 17
  lb : B.length ≤ 16
  ld : D.length ≤ 16
  sa : ∀ r ∈ A, r.Small
  sb : ∀ r ∈ B, r.Small
  sd : ∀ r ∈ D, r.Small
  below : RowKit.Below w.heap.size w w'
def CasePost (w : World) (x : Ending) (w' : World) : Prop := ∃ va vb vd A B D, x = .returned (.tuple #[va, vb, vd]) ∧ CaseOk w va vb vd A B D w'
theorem case_keep {W w w' : World} {B bx : Nat} {cs : Array Value} (hbx : bx < W.heap.size) (hB : B ≤ W.heap.size) (h : RowKit.Below B W w ∧ ∀ j, w.cell? ⟨bx, j, none⟩ = cs[j]?) (hb : RowKit.Below w.heap.size w w') : RowKit.Below B W w' ∧ ∀ j, w'.cell? ⟨bx, j, none⟩ = cs[j]? :=
  ⟨h.1.trans (hb.mono (Nat.le_trans hB h.1.size)), fun j => by rw [hb.cell (p := ⟨bx, j, none⟩) (Nat.lt_of_lt_of_le hbx h.1.size)]; exact h.2 j⟩
theorem case_keep2 {W w w' : World} {B bx : Nat} {cs : Array Value} {v : Value} {L : List Req} (hbx : bx < W.heap.size) (hB : B ≤ W.heap.size) (h : RowKit.Below B W w ∧ (∀ j, w.cell? ⟨bx, j, none⟩ = cs[j]?) ∧ ReqsIn w v L) (hb : RowKit.Below w.heap.size w w') : RowKit.Below B W w' ∧ (∀ j, w'.cell? ⟨bx, j, none⟩ = cs[j]?) ∧ ReqsIn w' v L :=
  ⟨(case_keep hbx hB ⟨h.1, h.2.1⟩ hb).1, (case_keep hbx hB ⟨h.1, h.2.1⟩ hb).2, h.2.2.below hb⟩
theorem grown_cell {w w' : World} {row : Option Nat} {b j : Nat} (hg : w.grownBy w' row) (hb : b < w.heap.size) (hne : some b ≠ row) : w'.cell? ⟨b, j, none⟩ = w.cell? ⟨b, j, none⟩ := World.cell?_of_block (hg.block b hb hne)
theorem row_at {w : World} {g cap k : Nat} {L : List Req} {x : Req} (h : ReqsIn w (.slice (some ⟨g, 0, none⟩) L.length cap) L) (hx : L[k]? = some x) : ReqAt w g (k * 9) x := by
  obtain ⟨b, o, c, hv, _, _, hat⟩ := h.at_ (by have := (List.getElem?_eq_some_iff.1 hx).1; omega)
  have e1 := (Value.slice.inj hv).1
  simp only [Option.some.injEq, Addr.mk.injEq, and_true] at e1
  obtain ⟨rfl, rfl⟩ := e1
  have := hat k x hx
  rwa [Nat.zero_add] at this
theorem ReqsIn.lt {w : World} {v : Value} {L : List Req} (h : ReqsIn w v L) : ∀ q, v.ownBlock = some q → q < w.heap.size := by
  intro q hq
  rcases h with ⟨rfl, _⟩ | ⟨b, o, c, rfl, _, h3, _⟩
  · simp [Value.ownBlock] at hq
  · simp [Value.ownBlock] at hq; omega






































































































































































end Go.Proofs.YteopjiedjnaeiaaGreat
namespace Go.Proofs.YteopjiedjnaeiaaGreat
open Go Go.Proofs Go.RowKit Go.Sort Go.Lib Go.Maps

def Seat.cells (s : Seat) : List Value := [.int .i64 s.student, .string s.code]
@[reducible] def Seat.val (s : Seat) : Value := .agg #[.int .i64 s.student, .string s.code]
@[reducible] def Off.sv (o : Off) : Value := .slice o.sp o.slots.length o.sc
@[reducible] def Off.nv (o : Off) : Value := .slice o.np o.needs.length o.nc
def Off.cells (o : Off) : List Value := [.string o.code, .int .i64 o.credits, .int .i64 o.places, .slice o.sp o.slots.length o.sc, .slice o.np o.needs.length o.nc]
@[reducible] def Off.val (o : Off) : Value := .agg #[.string o.code, .int .i64 o.credits, .int .i64 o.places, .slice o.sp o.slots.length o.sc, .slice o.np o.needs.length o.nc]
def encI (n : Int) : List Value := [.int .i64 n]
def encT (s : ByteArray) : List Value := [.string s]
/-- An offer's lists are there. -/
structure OffOk (w : World) (o : Off) : Prop where
  slots : RowIn encI w o.sv o.slots
  needs : RowIn encT w o.nv o.needs
theorem OffOk.below {w w' : World} {o : Off} (h : OffOk w o) (hb : RowKit.Below w.heap.size w w') : OffOk w' o := ⟨h.slots.below hb, h.needs.below hb⟩
theorem zeroO_ok (w : World) : OffOk w zeroO := ⟨RowIn.nil _ _, RowIn.nil _ _⟩
theorem getO_ok {w : World} {L : List Off} (h : ∀ o ∈ L, OffOk w o) (c : ByteArray) : OffOk w (getO L c) := by
  unfold getO
  cases hf : findO L c with
  | none => exact zeroO_ok w
  | some o => exact h o (List.mem_of_find?_eq_some hf)
theorem seatT : RowT Tryz.prog Seat.cells 2 53 29 where
  len _ := rfl
  one s u hu := by simp [Seat.cells] at hu; rcases hu with rfl | rfl <;> rfl
  pos := by decide
  und := Tryz.underlying29
  info := by
    obtain ⟨i0, hi, h1, h2, h3⟩ := info_parts (show (Tryz.prog.info? 53).map (fun i => (i.zero, i.size, i.bytes)) = some (some (.agg #[.int .i64 0, .string ⟨#[]⟩]), 2, 24) by kernel_rfl)
    exact ⟨i0, _, hi, h1, h2, rfl, by omega⟩
theorem seat_ok_and (p : Prop) [Decidable p] (q : Bool) (w : World) : Result.ok (decide p && q) w = if p then Result.ok q w else Result.ok false w := by by_cases h : p <;> simp [h]
theorem seat_ok_dec (p : Prop) [Decidable p] (w : World) : Result.ok (decide p) w = if p then Result.ok true w else Result.ok false w := by by_cases h : p <;> simp [h]
set_option maxRecDepth 100000 in
theorem seat_eqIn (a b : Seat) (w : World) : (Op.equalIn 10000 53 a.val b.val).run Tryz.prog w = .ok (eqSeat a b) w := by
  have hp : Tryz.prog.stoodInHeld 53 = false := by kernel_rfl
  rw [show (10000 : Nat) = 9999 + 1 from rfl, run_equalIn_agg w _ _ _ _ (by kernel_rfl) hp]
  unfold Program.fieldsOf
  rw [Tryz.underlying53]
  go_simp
  simp only [eqSeat, seat_ok_and]
  rw [seat_ok_dec]
theorem seat_eql (x0 : Int) (x1 : ByteArray) (y0 : Int) (y1 : ByteArray) (w : World) : (binOp .eql 53 (.agg #[.int .i64 x0, .string x1]) (.agg #[.int .i64 y0, .string y1])).run Tryz.prog w = .ok (.bool (eqSeat ⟨x0, x1⟩ ⟨y0, y1⟩)) w := by
  rw [run_eql_struct, seat_eqIn ⟨x0, x1⟩ ⟨y0, y1⟩]; rfl
theorem seat_neq (x0 : Int) (x1 : ByteArray) (y0 : Int) (y1 : ByteArray) (w : World) : (binOp .neq 53 (.agg #[.int .i64 x0, .string x1]) (.agg #[.int .i64 y0, .string y1])).run Tryz.prog w = .ok (.bool (!eqSeat ⟨x0, x1⟩ ⟨y0, y1⟩)) w := by
  rw [run_neq_struct, seat_eqIn ⟨x0, x1⟩ ⟨y0, y1⟩]; rfl
theorem seat_load (w : World) (b o : Nat) (s : Seat) (h : w.rangeAt b o s.cells) : (Instr.loadAt 53 (.pointer (some ⟨b, o, none⟩))).run Tryz.prog w = .ok s.val w :=
  run_loadAt_mid w b o 53 s.cells _ h Tryz.underlying53 rfl (by kernel_rfl)
theorem off_load (w : World) (b o : Nat) (s : Off) (h : w.rangeAt b o s.cells) : (Instr.loadAt 57 (.pointer (some ⟨b, o, none⟩))).run Tryz.prog w = .ok s.val w :=
  run_loadAt_mid w b o 57 s.cells _ h Tryz.underlying57 rfl (by kernel_rfl)

/-! ### keys -/
theorem st_keyed : Maps.Keyed Tryz.prog 53 :=
  Maps.Keyed.of_law (deep_law_laid rq_laidOut (m := 2) (by omega) (of_decide_eq_true (by kernel_rfl)) (by kernel_rfl) (by rw [Tryz.underlying53]))
theorem str_keyed : Maps.Keyed Tryz.prog 9 := string_keyed Tryz.underlying9
/-- A seat that can be a key. -/
def Seat.wf (s : Seat) : Prop := (Lit.int .i64 s.student).wf = true ∧ s.code.size ≤ maxLen
def litS (s : Seat) : Lit := .string (keyBytes [.int .i64 s.student, .string s.code.data.toList])
def litC (c : ByteArray) : Lit := .string c.data.toList
set_option maxRecDepth 100000 in
theorem key_seat (s : Seat) (h : s.wf) : keyOf Tryz.prog 53 (.agg #[.int .i64 s.student, .string s.code]) = some (litS s) := by
  obtain ⟨h1, h2⟩ := h
  have hn : Tryz.prog.cellsOf 53 = 2 := by kernel_rfl
  have c1 : Tryz.prog.cellsOf 3 = 1 := by kernel_rfl
  have c3 : Tryz.prog.cellsOf 9 = 1 := by kernel_rfl
  have hk : Tryz.prog.keyType 53 = true := by kernel_rfl
  obtain ⟨sz, hsz⟩ : ∃ sz, Tryz.prog.types.size = sz + 1 := ⟨Tryz.prog.types.size - 1, by kernel_rfl⟩
  unfold keyOf
  rw [Tryz.underlying53]
  simp only [hk, Value.formed, Tryz.underlying53, hn]
  unfold Program.keyLits
  rw [Tryz.underlying53, hsz]
  simp [hn, c1, c3, Value.cells, lits_int, lits_str, h1, h2, litS]
theorem litS_inj {a b : Seat} (ha : a.wf) (hb : b.wf) (h : litS a = litS b) : a = b := by
  have := st_keyed.inj (key_seat a ha) (by rw [h]; exact key_seat b hb)
  cases a; cases b
  simpa using this
theorem key_code (c : ByteArray) (h : c.size ≤ maxLen) : keyOf Tryz.prog 9 (.string c) = some (litC c) := Go.WideMaps.keyOf_string_mk Tryz.underlying9 h
theorem litC_inj {a b : ByteArray} (h : litC a = litC b) : a = b := by
  unfold litC at h
  injection h with h
  cases a; cases b
  simp at h
  rw [h]
/-- A map of seats: those of a list. -/
def SeatsAre (D : DataW Unit) (L : List Seat) : Prop := ∀ s : Seat, s.wf → D.atKey (litS s) (.lit (.bool false)) = .lit (.bool (decide (s ∈ L)))
theorem SeatsAre.put {D : DataW Unit} {L : List Seat} (h : SeatsAre D L) (hm : Maps.IsMap D) {s : Seat} (hs : s.wf) : SeatsAre (D.put (litS s) (.lit (.bool true))) (L ++ [s]) := fun s' hs' => by
  by_cases e : s' = s
  · subst e
    rw [Maps.atKey_put_same hm (k := litS s') (by simp [litS, WideAt.IsKeyLit])]
    simp
  · rw [Maps.atKey_put_other (fun e' => e (litS_inj hs' hs e')), h s' hs']
    simp [e]
/-- A map of offers: an element as it is. -/
def heldV (v : Value) : Option (DataW Value × List MemPlace) := some (.held v, [])
theorem heldV_inv {v : Value} {d : DataW Value} {ps : List MemPlace} (h : heldV v = some (d, ps)) : d = .held v := by
  unfold heldV at h
  injection h with h
  injection h with h _
  exact h.symm
def OffsAre (D : DataW Value) (L : List Off) : Prop := ∀ c : ByteArray, Maps.has D (litC c) = (findO L c).isSome ∧ D.atKey (litC c) (.held zeroO.val) = .held (getO L c).val
theorem findO_snoc (L : List Off) (o : Off) (c : ByteArray) : findO (L ++ [o]) c = (findO L c).or (if o.code.toList = c.toList then some o else none) := by
  unfold findO
  rw [List.find?_append]
  congr 1
  by_cases h : o.code.toList = c.toList <;> simp [h]
theorem OffsAre.old {D : DataW Value} {L : List Off} (h : OffsAre D L) {o : Off} (ho : (findO L o.code).isSome = true) : OffsAre D (L ++ [o]) := fun c => by
  have e : findO (L ++ [o]) c = findO L c := by
    rw [findO_snoc]
    by_cases hc : o.code.toList = c.toList
    · obtain rfl := req_ba.1 hc
      obtain ⟨x, hx⟩ := Option.isSome_iff_exists.1 ho
      rw [hx]; rfl
    · rw [if_neg hc]; cases findO L c <;> rfl
  unfold getO
  rw [e]; exact h c
theorem OffsAre.put {D : DataW Value} {L : List Off} (h : OffsAre D L) (hm : Maps.IsMap D) {o : Off} (ho : (findO L o.code).isSome = false) : OffsAre (D.put (litC o.code) (.held o.val)) (L ++ [o]) := fun c => by
  have hn : findO L o.code = none := by cases hx : findO L o.code <;> simp_all
  by_cases e : c = o.code
  · subst e
    have e2 : findO (L ++ [o]) o.code = some o := by rw [findO_snoc, hn, if_pos rfl]; rfl
    unfold getO
    rw [e2, Maps.has_put_same hm (k := litC o.code) (by simp [litC, WideAt.IsKeyLit]), Maps.atKey_put_same hm (k := litC o.code) (by simp [litC, WideAt.IsKeyLit])]
    exact ⟨rfl, rfl⟩
  · have e2 : findO (L ++ [o]) c = findO L c := by
      rw [findO_snoc, if_neg (fun h => e (req_ba.1 h).symm)]
      cases findO L c <;> rfl
    unfold getO
    rw [e2, Maps.has_put_other (fun e' => e (litC_inj e')), Maps.atKey_put_other (fun e' => e (litC_inj e'))]
    exact h c
/-- 'm[k]' at a map of elements as they are. -/
theorem wpList_lookup_held {P : Program} (w : World) {ops : Array Oper} {rest : List Oper} {o : Oper} {a : Act} {Q : Exit → Act → World → Prop}
    (hg : o.guard = none) (m x : Operand) (t : TypeId) (hop : o.op = Op.lookup t m x false)
    (k e : TypeId) (K : Keyed P k) (ht : P.underlying t = some (.map k e)) {z : Value} (hz : (zeroValue e).run P w = .ok z w) (b n : Nat) (D : DataW Value)
    (hm : a.eval m = .map (some b)) (hown : w.ownsMap P k heldV b n D) (key : Value) (kl : Lit) (hx : a.eval x = key) (hkey : keyOf P k key = some kl) (v : Value) (hat : D.atKey kl (.held z) = .held v)
    (hK : wpList P ops Q rest (a.put o.dst v) w) :
    wpList P ops Q (o :: rest) a w := by
  refine wpList_plain hg fun K' hK' => ?_
  obtain ⟨v', ps, hrun, hv⟩ := hown.lookup K ht hz (zd := .held z) (zp := []) rfl hkey
  rw [hat] at hv
  have hvb := heldV_inv hv
  injection hvb with hvb
  subst hvb
  unfold Oper.wp
  simp [execOp, hop, hm, hx, hrun, Result.andThen]
  exact hK' _ _ hK
theorem wpList_lookup_held_ok {P : Program} (w : World) {ops : Array Oper} {rest : List Oper} {o : Oper} {a : Act} {Q : Exit → Act → World → Prop}
    (hg : o.guard = none) (m x : Operand) (t : TypeId) (hop : o.op = Op.lookup t m x true)
    (k e : TypeId) (K : Keyed P k) (ht : P.underlying t = some (.map k e)) {z : Value} (hz : (zeroValue e).run P w = .ok z w) (b n : Nat) (D : DataW Value)
    (hm : a.eval m = .map (some b)) (hown : w.ownsMap P k heldV b n D) (key : Value) (kl : Lit) (hx : a.eval x = key) (hkey : keyOf P k key = some kl) (v : Value) (hat : D.atKey kl (.held z) = .held v) (c : Bool) (hh : Maps.has D kl = c)
    (hK : wpList P ops Q rest (a.put o.dst (.tuple #[v, .bool c])) w) :
    wpList P ops Q (o :: rest) a w := by
  subst hh
  refine wpList_lookup_own_ok w hg m x t hop k e K ht heldV hz (.held z) [] rfl b n D hm hown key kl hx hkey fun v' ps hv => ?_
  rw [hat] at hv
  have hvb := heldV_inv hv
  injection hvb with hvb
  subst hvb
  exact hK
theorem blw_drewN {B : Nat} {a w : World} (h : Below B a w) (n : Nat) : Below B a (w.drewN n) := h.trans ⟨rfl, rfl, rfl, Nat.le_refl _, fun _ _ => rfl⟩
/-- The rules, as they were prepared. -/
structure RulesAt (w : World) (b1 b2 : Nat) (L : List Off) (met : List Seat) : Prop where
  off : ∃ n D, w.ownsMap Tryz.prog 9 heldV b1 n D ∧ OffsAre D L
  met : ∃ n D, w.ownsMap Tryz.prog 53 (plainElem Tryz.prog 4) b2 n D ∧ SeatsAre D met
theorem RulesAt.below {w w' : World} {b1 b2 : Nat} {L : List Off} {met : List Seat} (h : RulesAt w b1 b2 L met) (hb : RowKit.Below w.heap.size w w') : RulesAt w' b1 b2 L met := by
  obtain ⟨⟨n1, D1, h1, h2⟩, ⟨n2, D2, h3, h4⟩⟩ := h
  exact ⟨⟨n1, D1, h1.kept (row := none) (below_grows hb) (by simp), h2⟩, ⟨n2, D2, h3.kept (row := none) (below_grows hb) (by simp), h4⟩⟩
end Go.Proofs.YteopjiedjnaeiaaGreat
