/- The reference's put, walked. -/
import Derived.Test.YtanmmooflhomoaaGreatDoorRqPutL
import Derived.Test.YtanmmooflhomoaaGreatDoorRqPutR
import Derived.Test.YtanmmooflhomoaaGreatDoorRqLs
namespace Go.Proofs.YtanmmooflhomoaaGreatDoor
open Go Go.Proofs Go.RowKit Go.Sort Go.Lib
attribute [local go_sem] Req.cells
attribute [local go_sem ↓] req_eql_cells req_neq_cells

/-- What put leaves. -/
def PutPost (L : List Req) (r : Req) (w : World) (e : Ending) (w' : World) : Prop := ∃ v' M', e = .returned v' ∧ IsSet M' (L ++ [r]) ∧ M'.length ≤ L.length + 1 ∧ ReqsIn w' v' M' ∧ RowKit.Below w.heap.size w w'
theorem put_len {M L : List Req} (h : IsSet M L) : M.length ≤ L.length :=
  nodup_le M L (h.1.imp fun {a b} hlt e => by subst e; exact cmpR_irr _ hlt) fun r hr => (h.2 r).1 hr

set_option maxHeartbeats 8000000 in
set_option maxRecDepth 100000 in
theorem put_some (b o c : Nat) (M L : List Req) (r : Req) (w : World) (hv : ReqsIn w (.slice (some ⟨b, o, none⟩) M.length c) M) (hlc : M.length ≤ c) (hM : IsSet M L) (hl : M.length ≤ 1000) :
    Calls Tryz.prog 26 #[.slice (some ⟨b, o, none⟩) M.length c, r.val] w (PutPost L r w) := by
  have HV := Lib.hid hv
  have HM := Lib.hid hM
  clear hv hM
  have hbx : ReqBox (w.alloc (.cells r.cells 46)) w.heap.size r := ReqBox.new w r
  have hb1 : RowKit.Below w.heap.size w (w.alloc (.cells r.cells 46)) := (Below.refl _ w).alloc (Nat.le_refl _) _
  go_enter Tryz.func26, Tryz.ntmps26
  go_wp2_with fail
  go_loopw [5] (fun i wr => ∃ k : Nat, k ≤ M.length ∧ i = .int .i64 k ∧ Hid (∀ y ∈ M.drop k, ¬ cmpR y r < 0) ∧ ReqBox wr w.heap.size r ∧ RowKit.Below w.heap.size w wr) (fun i _ => (RowKit.intOf i).toNat)
  case atStart => exact ⟨M.length, Nat.le_refl _, rfl, Lib.hid (by simp), hbx, hb1⟩
  case round =>
    clear hbx hb1
    obtain ⟨k, hk, rfl, HD, hbox, hB⟩ := hrel
    by_cases hk0 : 0 < k
    · obtain ⟨g, o', c', hv', _, hgl, hat⟩ := HV.out.at_ (by omega)
      have e1 := (Value.slice.inj hv').1
      simp only [Option.some.injEq, Addr.mk.injEq, and_true] at e1
      obtain ⟨e1, e2⟩ := e1
      subst e1 e2
      have hx := List.getElem?_eq_getElem (show k - 1 < M.length by omega)
      generalize M[k - 1] = x at hx
      have hatx := (hat (k - 1) x hx).below hB hgl
      have HX := Lib.hid hx
      clear hx hat hv'
      have cl := fun w => rfLess_any x r w
      have HC : Hid (lessR x r = decide (cmpR x r < 0)) := Lib.hid rfl
      generalize lessR x r = t at cl HC
      have hkz : IntKind.i64.wrap ((k : Int) - 1) = ((k - 1 : Nat) : Int) := by rw [IntWalk.i64_in _ (by omega)]; omega
      have hkb : (0 : Int) ≤ ((k - 1 : Nat) : Int) := by omega
      have hkc : ((k - 1 : Nat) : Int) < (M.length : Int) := by omega
      have hkd : (k : Int) > 0 := by omega
      have hgw : b < wr.heap.size := Nat.lt_of_lt_of_le hgl hB.size
      have hSof : ∀ w', RowKit.Below wr.heap.size wr w' → RowKit.Below wr.heap.size wr w' ∧ (∀ j, w'.cell? ⟨w.heap.size, j, none⟩ = r.cells[j]?) ∧ w'.cell? ⟨b, o + (k - 1) * 9, none⟩ = some (.int .i64 x.server) ∧ w'.cell? ⟨b, o + (k - 1) * 9 + 1, none⟩ = some (.int .i64 x.seq) ∧ w'.cell? ⟨b, o + (k - 1) * 9 + 2, none⟩ = some (.bool x.cancel) ∧ w'.cell? ⟨b, o + (k - 1) * 9 + 3, none⟩ = some (.int .i64 x.student) ∧ w'.cell? ⟨b, o + (k - 1) * 9 + 4, none⟩ = some (.int .i64 x.term) ∧ w'.cell? ⟨b, o + (k - 1) * 9 + 5, none⟩ = some (.string x.code) ∧ w'.cell? ⟨b, o + (k - 1) * 9 + 6, none⟩ = some (.string x.give) ∧ w'.cell? ⟨b, o + (k - 1) * 9 + 7, none⟩ = some (.int .i64 x.priority) ∧ w'.cell? ⟨b, o + (k - 1) * 9 + 8, none⟩ = some (.int .i64 x.day) := fun w' hB1 => by
        have hbox1 := hbox.below hB1
        have hatx1 := hatx.below hB1 hgw
        exact ⟨hB1, hbox1.cell, hatx1.cell 0 rfl, hatx1.cell 1 rfl, hatx1.cell 2 rfl, hatx1.cell 3 rfl, hatx1.cell 4 rfl, hatx1.cell 5 rfl, hatx1.cell 6 rfl, hatx1.cell 7 rfl, hatx1.cell 8 rfl⟩
      have hS0 := hSof wr.drew (Below.refl _ _).drew
      go_wp2_with fail
      go_region_held3 (fun w' => RowKit.Below wr.heap.size wr w' ∧ (∀ j, w'.cell? ⟨w.heap.size, j, none⟩ = r.cells[j]?) ∧ w'.cell? ⟨b, o + (k - 1) * 9, none⟩ = some (.int .i64 x.server) ∧ w'.cell? ⟨b, o + (k - 1) * 9 + 1, none⟩ = some (.int .i64 x.seq) ∧ w'.cell? ⟨b, o + (k - 1) * 9 + 2, none⟩ = some (.bool x.cancel) ∧ w'.cell? ⟨b, o + (k - 1) * 9 + 3, none⟩ = some (.int .i64 x.student) ∧ w'.cell? ⟨b, o + (k - 1) * 9 + 4, none⟩ = some (.int .i64 x.term) ∧ w'.cell? ⟨b, o + (k - 1) * 9 + 5, none⟩ = some (.string x.code) ∧ w'.cell? ⟨b, o + (k - 1) * 9 + 6, none⟩ = some (.string x.give) ∧ w'.cell? ⟨b, o + (k - 1) * 9 + 7, none⟩ = some (.int .i64 x.priority) ∧ w'.cell? ⟨b, o + (k - 1) * 9 + 8, none⟩ = some (.int .i64 x.day)) (first | exact hS0 | assumption)
        (first | ((with_reducible refine (cl _).mono ?_); rintro _ w3 ⟨rfl, hb3⟩; have hS1 := hSof w3 (hS0.1.trans (hb3.mono hS0.1.size))))
      have hB3 : RowKit.Below w.heap.size w w3 := hB.trans (hS1.1.mono hB.size)
      have hbox3 := hbox.below hS1.1
      clear hS0 hSof hb3 cl
      cases t
      · have HD' : Hid (∀ y ∈ M.drop (k - 1), ¬ cmpR y r < 0) := Lib.hid (by
          intro y hy
          have e : M.drop (k - 1) = x :: M.drop k := by
            have hx := HX.out
            obtain ⟨hlt, rfl⟩ := List.getElem?_eq_some_iff.1 hx
            have := (List.getElem_cons_drop hlt).symm
            rwa [show k - 1 + 1 = k by omega] at this
          rw [e] at hy
          rcases List.mem_cons.1 hy with rfl | hy
          · have := HC.out; simpa using this
          · have := HD.out y hy; omega)
        clear hS1 hbox hB hatx
        go_wp2_with fail
        go_roundw
        case rel => exact ⟨k - 1, by omega, rfl, HD', hbox3, hB3⟩
        case measure => simp [RowKit.intOf]; omega
      · clear hS1 hbox hB hatx hkz hkb hkc hkd hgw
        have HLO := Lib.hid (put_lo HM.out r k hk (fun z _ hz => by rw [HX.out] at hz; obtain rfl := Option.some.inj hz; have := HC.out; simpa using this))
        have HHI := Lib.hid (HD.out)
        by_cases hkn : k < M.length
        · obtain ⟨g', o', c'', hv', _, hgl', hat⟩ := HV.out.at_ (by omega)
          have hy := List.getElem?_eq_getElem hkn
          generalize M[k] = y at hy
          have e1 := (Value.slice.inj hv').1
          simp only [Option.some.injEq, Addr.mk.injEq, and_true] at e1
          obtain ⟨e1, e2⟩ := e1
          subst e1 e2
          have haty := (hat k y hy).below hB3 hgl'
          have HY := Lib.hid hy
          have hke : (k : Int) < (M.length : Int) := by omega
          clear hy hat hv'
          have cy0 : w3.cell? ⟨b, o + k * 9, none⟩ = some (.int .i64 y.server) := haty.cell 0 rfl
          have cy1 : w3.cell? ⟨b, o + k * 9 + 1, none⟩ = some (.int .i64 y.seq) := haty.cell 1 rfl
          have cy2 : w3.cell? ⟨b, o + k * 9 + 2, none⟩ = some (.bool y.cancel) := haty.cell 2 rfl
          have cy3 : w3.cell? ⟨b, o + k * 9 + 3, none⟩ = some (.int .i64 y.student) := haty.cell 3 rfl
          have cy4 : w3.cell? ⟨b, o + k * 9 + 4, none⟩ = some (.int .i64 y.term) := haty.cell 4 rfl
          have cy5 : w3.cell? ⟨b, o + k * 9 + 5, none⟩ = some (.string y.code) := haty.cell 5 rfl
          have cy6 : w3.cell? ⟨b, o + k * 9 + 6, none⟩ = some (.string y.give) := haty.cell 6 rfl
          have cy7 : w3.cell? ⟨b, o + k * 9 + 7, none⟩ = some (.int .i64 y.priority) := haty.cell 7 rfl
          have cy8 : w3.cell? ⟨b, o + k * 9 + 8, none⟩ = some (.int .i64 y.day) := haty.cell 8 rfl
          have cr0 : w3.cell? ⟨w.heap.size, 0, none⟩ = some (.int .i64 r.server) := hbox3.cell 0
          have cr1 : w3.cell? ⟨w.heap.size, 1, none⟩ = some (.int .i64 r.seq) := hbox3.cell 1
          have cr2 : w3.cell? ⟨w.heap.size, 2, none⟩ = some (.bool r.cancel) := hbox3.cell 2
          have cr3 : w3.cell? ⟨w.heap.size, 3, none⟩ = some (.int .i64 r.student) := hbox3.cell 3
          have cr4 : w3.cell? ⟨w.heap.size, 4, none⟩ = some (.int .i64 r.term) := hbox3.cell 4
          have cr5 : w3.cell? ⟨w.heap.size, 5, none⟩ = some (.string r.code) := hbox3.cell 5
          have cr6 : w3.cell? ⟨w.heap.size, 6, none⟩ = some (.string r.give) := hbox3.cell 6
          have cr7 : w3.cell? ⟨w.heap.size, 7, none⟩ = some (.int .i64 r.priority) := hbox3.cell 7
          have cr8 : w3.cell? ⟨w.heap.size, 8, none⟩ = some (.int .i64 r.day) := hbox3.cell 8
          have HQ : Hid (eqReq ⟨y.server, y.seq, y.cancel, y.student, y.term, y.code, y.give, y.priority, y.day⟩ ⟨r.server, r.seq, r.cancel, r.student, r.term, r.code, r.give, r.priority, r.day⟩ = true ↔ y = r) := Lib.hid (eqReq_iff y r)
          clear haty
          go_wp2_with fail
          go_quiet (fail)
          generalize eqReq ⟨y.server, y.seq, y.cancel, y.student, y.term, y.code, y.give, y.priority, y.day⟩ ⟨r.server, r.seq, r.cancel, r.student, r.term, r.code, r.give, r.priority, r.day⟩ = q at HQ ⊢
          have hB4 : RowKit.Below w.heap.size w (w3.drewN nq) := hB3.trans ⟨rfl, rfl, rfl, Nat.le_refl _, fun _ _ => rfl⟩
          have hbox4 : ReqBox (w3.drewN nq) w.heap.size r := hbox3
          clear cy0 cy1 cy2 cy3 cy4 cy5 cy6 cy7 cy8 cr0 cr1 cr2 cr3 cr4 cr5 cr6 cr7 cr8
          cases q
          · have HN : Hid (M[k]? ≠ some r) := Lib.hid (by rw [HY.out]; intro e; exact absurd (HQ.out.2 (Option.some.inj e)) (by simp))
            go_wp2_with fail
            refine put_r6 b o c k w.heap.size M r _ _ (HV.out.below hB4) (by omega) hlc (by omega) hbox4 ?_
            intro u4 u35 u36 u37 u38 u39 u40 u41 u42 u43 u44 u45 u46 wx hQ
            obtain ⟨hb5, hin⟩ := hQ
            have hBx : RowKit.Below w.heap.size w wx := hB4.trans (hb5.mono hB4.size)
            go_wp2_with fail
            go_ret
            exact ⟨_, _, rfl, put_new HM.out r k HLO.out (fun y hy => by have := HHI.out y hy; omega) HN.out, by have := put_len HM.out; simp; omega, hin, hBx⟩
          · go_wp2_with fail
            go_ret
            have er := HQ.out.1 (by first | trivial | rfl)
            subst er
            exact ⟨_, M, rfl, put_old HM.out _ (List.mem_of_getElem? HY.out), by have := put_len HM.out; omega, HV.out.below hB4, hB4⟩
        · obtain hkm : M.length = k := by omega
          have HKM := Lib.hid hkm
          have hke : ¬ ((k : Int) < (M.length : Int)) := by omega
          have HN : Hid (M[k]? ≠ some r) := Lib.hid (by rw [List.getElem?_eq_none (by omega)]; simp)
          clear hkm
          go_wp2_with fail
          go_quiet (fail)
          have hB4 : RowKit.Below w.heap.size w (w3.drewN nq) := hB3.trans ⟨rfl, rfl, rfl, Nat.le_refl _, fun _ _ => rfl⟩
          have hbox4 : ReqBox (w3.drewN nq) w.heap.size r := hbox3
          go_wp2_with fail
          refine put_r6 b o c k w.heap.size M r _ _ (HV.out.below hB4) (by omega) hlc (by omega) hbox4 ?_
          intro u4 u35 u36 u37 u38 u39 u40 u41 u42 u43 u44 u45 u46 wx hQ
          obtain ⟨hb5, hin⟩ := hQ
          have hBx : RowKit.Below w.heap.size w wx := hB4.trans (hb5.mono hB4.size)
          go_wp2_with fail
          go_ret
          exact ⟨_, _, rfl, put_new HM.out r k HLO.out (fun y hy => by have := HHI.out y hy; omega) HN.out, by have := put_len HM.out; simp; omega, hin, hBx⟩
    · obtain rfl : k = 0 := by omega
      go_wp2_with fail
      go_quiet (fail)
      have hB3 : RowKit.Below w.heap.size w (wr.drewN nq) := hB.trans ⟨rfl, rfl, rfl, Nat.le_refl _, fun _ _ => rfl⟩
      have hbox3 : ReqBox (wr.drewN nq) w.heap.size r := hbox
      clear hB hbox
      generalize wr.drewN nq = w3 at hB3 hbox3 ⊢
      have HLO := Lib.hid ((by simp : ∀ x ∈ M.take 0, cmpR x r < 0))
      have HHI := Lib.hid (HD.out)
      by_cases hkn : 0 < M.length
      · obtain ⟨g', o', c'', hv', _, hgl', hat⟩ := HV.out.at_ (by omega)
        have hy := List.getElem?_eq_getElem hkn
        generalize M[0] = y at hy
        have e1 := (Value.slice.inj hv').1
        simp only [Option.some.injEq, Addr.mk.injEq, and_true] at e1
        obtain ⟨e1, e2⟩ := e1
        subst e1 e2
        have haty := (hat 0 y hy).below hB3 hgl'
        have HY := Lib.hid hy
        have hke : (0 : Int) < (M.length : Int) := by omega
        clear hy hat hv'
        rw [Nat.zero_mul, Nat.add_zero] at haty
        have cy0 : w3.cell? ⟨b, o, none⟩ = some (.int .i64 y.server) := haty.cell 0 rfl
        have cy1 : w3.cell? ⟨b, o + 1, none⟩ = some (.int .i64 y.seq) := haty.cell 1 rfl
        have cy2 : w3.cell? ⟨b, o + 2, none⟩ = some (.bool y.cancel) := haty.cell 2 rfl
        have cy3 : w3.cell? ⟨b, o + 3, none⟩ = some (.int .i64 y.student) := haty.cell 3 rfl
        have cy4 : w3.cell? ⟨b, o + 4, none⟩ = some (.int .i64 y.term) := haty.cell 4 rfl
        have cy5 : w3.cell? ⟨b, o + 5, none⟩ = some (.string y.code) := haty.cell 5 rfl
        have cy6 : w3.cell? ⟨b, o + 6, none⟩ = some (.string y.give) := haty.cell 6 rfl
        have cy7 : w3.cell? ⟨b, o + 7, none⟩ = some (.int .i64 y.priority) := haty.cell 7 rfl
        have cy8 : w3.cell? ⟨b, o + 8, none⟩ = some (.int .i64 y.day) := haty.cell 8 rfl
        have cr0 : w3.cell? ⟨w.heap.size, 0, none⟩ = some (.int .i64 r.server) := hbox3.cell 0
        have cr1 : w3.cell? ⟨w.heap.size, 1, none⟩ = some (.int .i64 r.seq) := hbox3.cell 1
        have cr2 : w3.cell? ⟨w.heap.size, 2, none⟩ = some (.bool r.cancel) := hbox3.cell 2
        have cr3 : w3.cell? ⟨w.heap.size, 3, none⟩ = some (.int .i64 r.student) := hbox3.cell 3
        have cr4 : w3.cell? ⟨w.heap.size, 4, none⟩ = some (.int .i64 r.term) := hbox3.cell 4
        have cr5 : w3.cell? ⟨w.heap.size, 5, none⟩ = some (.string r.code) := hbox3.cell 5
        have cr6 : w3.cell? ⟨w.heap.size, 6, none⟩ = some (.string r.give) := hbox3.cell 6
        have cr7 : w3.cell? ⟨w.heap.size, 7, none⟩ = some (.int .i64 r.priority) := hbox3.cell 7
        have cr8 : w3.cell? ⟨w.heap.size, 8, none⟩ = some (.int .i64 r.day) := hbox3.cell 8
        have HQ : Hid (eqReq ⟨y.server, y.seq, y.cancel, y.student, y.term, y.code, y.give, y.priority, y.day⟩ ⟨r.server, r.seq, r.cancel, r.student, r.term, r.code, r.give, r.priority, r.day⟩ = true ↔ y = r) := Lib.hid (eqReq_iff y r)
        clear haty
        go_wp2_with fail
        go_quiet (fail)
        generalize eqReq ⟨y.server, y.seq, y.cancel, y.student, y.term, y.code, y.give, y.priority, y.day⟩ ⟨r.server, r.seq, r.cancel, r.student, r.term, r.code, r.give, r.priority, r.day⟩ = q at HQ ⊢
        have hB4 : RowKit.Below w.heap.size w (w3.drewN nq) := hB3.trans ⟨rfl, rfl, rfl, Nat.le_refl _, fun _ _ => rfl⟩
        have hbox4 : ReqBox (w3.drewN nq) w.heap.size r := hbox3
        clear cy0 cy1 cy2 cy3 cy4 cy5 cy6 cy7 cy8 cr0 cr1 cr2 cr3 cr4 cr5 cr6 cr7 cr8
        cases q
        · have HN : Hid (M[0]? ≠ some r) := Lib.hid (by rw [HY.out]; intro e; exact absurd (HQ.out.2 (Option.some.inj e)) (by simp))
          go_wp2_with fail
          refine put_r6 b o c 0 w.heap.size M r _ _ (HV.out.below hB4) (by omega) hlc (by omega) hbox4 ?_
          intro u4 u35 u36 u37 u38 u39 u40 u41 u42 u43 u44 u45 u46 wx hQ
          obtain ⟨hb5, hin⟩ := hQ
          have hBx : RowKit.Below w.heap.size w wx := hB4.trans (hb5.mono hB4.size)
          go_wp2_with fail
          go_ret
          exact ⟨_, _, rfl, put_new HM.out r 0 HLO.out (fun y hy => by have := HHI.out y hy; omega) HN.out, by have := put_len HM.out; simp; omega, hin, hBx⟩
        · go_wp2_with fail
          go_ret
          have er := HQ.out.1 (by first | trivial | rfl)
          subst er
          exact ⟨_, M, rfl, put_old HM.out _ (List.mem_of_getElem? HY.out), by have := put_len HM.out; omega, HV.out.below hB4, hB4⟩
      · obtain hkm : M.length = 0 := by omega
        have HKM := Lib.hid hkm
        have hke : ¬ ((0 : Int) < (M.length : Int)) := by omega
        have HN : Hid (M[0]? ≠ some r) := Lib.hid (by rw [List.getElem?_eq_none (by omega)]; simp)
        clear hkm
        go_wp2_with fail
        go_quiet (fail)
        have hB4 : RowKit.Below w.heap.size w (w3.drewN nq) := hB3.trans ⟨rfl, rfl, rfl, Nat.le_refl _, fun _ _ => rfl⟩
        have hbox4 : ReqBox (w3.drewN nq) w.heap.size r := hbox3
        go_wp2_with fail
        refine put_r6 b o c 0 w.heap.size M r _ _ (HV.out.below hB4) (by omega) hlc (by omega) hbox4 ?_
        intro u4 u35 u36 u37 u38 u39 u40 u41 u42 u43 u44 u45 u46 wx hQ
        obtain ⟨hb5, hin⟩ := hQ
        have hBx : RowKit.Below w.heap.size w wx := hB4.trans (hb5.mono hB4.size)
        go_wp2_with fail
        go_ret
        exact ⟨_, _, rfl, put_new HM.out r 0 HLO.out (fun y hy => by have := HHI.out y hy; omega) HN.out, by have := put_len HM.out; simp; omega, hin, hBx⟩

set_option maxHeartbeats 8000000 in
set_option maxRecDepth 100000 in
theorem put_nil (L : List Req) (r : Req) (w : World) (hM : IsSet [] L) :
    Calls Tryz.prog 26 #[.slice none 0 0, r.val] w (PutPost L r w) := by
  have HM := Lib.hid hM
  clear hM
  have hbx : ReqBox (w.alloc (.cells r.cells 46)) w.heap.size r := ReqBox.new w r
  have hb1 : RowKit.Below w.heap.size w (w.alloc (.cells r.cells 46)) := (Below.refl _ w).alloc (Nat.le_refl _) _
  go_enter Tryz.func26, Tryz.ntmps26
  go_wp2_with fail
  refine wp_loop_rounds 1 ?_
  rw [rounds_succ]
  go_wp2_with fail
  go_quiet (fail)
  go_wp2_with fail
  go_quiet (fail)
  go_wp2_with fail
  refine put_r6n w.heap.size r _ _ hbx ?_
  intro u4 u35 u36 u37 u38 u39 u40 u41 u42 u43 u44 u45 u46 wx hQ
  obtain ⟨hb5, hin⟩ := hQ
  have hBx : RowKit.Below w.heap.size w wx := by
    refine RowKit.Below.trans ?_ (hb5.mono hb1.size)
    exact hb1.trans ⟨rfl, rfl, rfl, Nat.le_refl _, fun _ _ => rfl⟩
  go_wp2_with fail
  go_ret
  exact ⟨_, _, rfl, put_new HM.out r 0 (by simp) (by simp) (by simp), by simp, hin, hBx⟩
theorem put_any (v : Value) (M L : List Req) (r : Req) (w : World) (hv : ReqsIn w v M) (hM : IsSet M L) (hl : M.length ≤ 1000) :
    Calls Tryz.prog 26 #[v, r.val] w (PutPost L r w) := by
  rcases id hv with ⟨rfl, rfl⟩ | ⟨b, o, c, rfl, h2, _⟩
  · exact put_nil L r w hM
  · exact put_some b o c M L r w hv h2 hM hl
end Go.Proofs.YtanmmooflhomoaaGreatDoor
