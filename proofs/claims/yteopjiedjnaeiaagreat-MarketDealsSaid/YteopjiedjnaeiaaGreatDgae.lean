/- What the reference's put does to a set in order (plain law). -/
import Derived.Test.YteopjiedjnaeiaaGreatDgad
import Derived.Test.YteopjiedjnaeiaaGreatGrowF
import Derived.Laws.AppendOwnNone
import Derived.Deep.AppendLies
import Derived.Carry
/- slices.Grow and slices.Concat at requests. -/
namespace Go.Proofs.YteopjiedjnaeiaaGreat
open Go Go.Proofs Go.RowKit Go.Sort Go.Lib

theorem reqCells_app (L M : List Req) : reqCells (L ++ M) = reqCells L ++ reqCells M := by simp [reqCells]
theorem reqs_one (L : List Req) : ∀ u ∈ reqCells L, u.oneCell' = true := by
  intro u hu
  obtain ⟨r, _, hr⟩ := List.mem_flatMap.1 hu
  exact req_one r u hr
theorem add_plain (b o j : Nat) : (⟨b, o, none⟩ : Addr).add j = ⟨b, o + j, none⟩ := by unfold Addr.add; split <;> simp_all
/-- A slice of requests as a world holds it. -/
def ReqsIn (w : World) (v : Value) (L : List Req) : Prop :=
  (v = .slice none 0 0 ∧ L = []) ∨ ∃ b o c, v = .slice (some ⟨b, o, none⟩) L.length c ∧ L.length ≤ c ∧ b < w.heap.size ∧ ∀ (j : Nat) (u : Value), (reqCells L)[j]? = some u → w.cell? ⟨b, o + j, none⟩ = some u
theorem ReqsIn.below {w w' : World} {v : Value} {L : List Req} (h : ReqsIn w v L) (hb : RowKit.Below w.heap.size w w') : ReqsIn w' v L := by
  rcases h with h | ⟨b, o, c, h1, h2, h3, h4⟩
  · exact .inl h
  · exact .inr ⟨b, o, c, h1, h2, Nat.lt_of_lt_of_le h3 hb.size, fun j u hj => by rw [hb.cell (p := ⟨b, o + j, none⟩) h3]; exact h4 j u hj⟩
theorem ReqsIn.form {w : World} {v : Value} {L : List Req} (h : ReqsIn w v L) : ∃ base c, v = .slice base L.length c ∧ L.length ≤ c := by
  rcases h with ⟨rfl, rfl⟩ | ⟨b, o, c, rfl, h2, _⟩
  · exact ⟨none, 0, rfl, Nat.le_refl _⟩
  · exact ⟨_, c, rfl, h2⟩
theorem ReqsIn.at_ {w : World} {v : Value} {L : List Req} (h : ReqsIn w v L) (hl : 0 < L.length) : ∃ b o c, v = .slice (some ⟨b, o, none⟩) L.length c ∧ L.length ≤ c ∧ b < w.heap.size ∧ ∀ k r, L[k]? = some r → ReqAt w b (o + k * 9) r := by
  rcases h with ⟨rfl, rfl⟩ | ⟨b, o, c, rfl, h2, h3, h4⟩
  · cases hl
  · refine ⟨b, o, c, rfl, h2, h3, fun k r hk j u hj => ?_⟩
    rw [Nat.add_assoc]
    refine h4 _ _ ?_
    obtain ⟨hk1, rfl⟩ := List.getElem?_eq_some_iff.1 hk
    have hj9 : j < 9 := by
      have := (List.getElem?_eq_some_iff.1 hj).1
      simpa [Req.cells] using this
    have e : L = L.take k ++ L[k] :: L.drop (k + 1) := by rw [List.getElem_cons_drop, List.take_append_drop]
    have hq : (reqCells L)[k * 9 + j]? = (reqCells (L.take k ++ L[k] :: L.drop (k + 1)))[k * 9 + j]? := by rw [← e]
    have ht : (L.take k).length = k := by simp; omega
    rw [hq, reqCells_app, show reqCells (L[k] :: L.drop (k + 1)) = L[k].cells.toList ++ reqCells (L.drop (k + 1)) from rfl,
      List.getElem?_append_right (by rw [reqCells_len, ht]; omega), reqCells_len, ht, show k * 9 + j - k * 9 = j by omega,
      List.getElem?_append_left (List.getElem?_eq_some_iff.1 hj).1]
    exact hj
theorem reqsIn_own {w : World} {base : Nat} {v : Value} {n : Nat} {L : List Req} (h : w.ownsRow base 39 9 v n (reqCells L)) : ReqsIn w v L := by
  have hn : n = L.length := by have := h.1; rw [reqCells_len] at this; omega
  subst hn
  rcases h.2 with ⟨rfl, h0⟩ | ⟨g, cap, cur, rfl, _, hg, h2, _, _, h5⟩
  · exact .inl ⟨rfl, List.eq_nil_of_length_eq_zero h0⟩
  · refine .inr ⟨g, 0, cap, rfl, h2, (Array.getElem?_eq_some_iff.1 hg).1, fun j u hj => ?_⟩
    rw [Nat.zero_add, Lib.cell_of_heap hg]
    rw [← h5, List.getElem?_take] at hj
    split at hj
    · simpa using hj
    · cases hj

/-- slices.Grow at a nil slice. -/
theorem grow_nil (n : Nat) (hn : n ≤ 1000000) (w : World) :
    Calls Tryz.prog 86 #[.slice none 0 0, .int .i64 n] w fun e w' => ∃ v, e = .returned v ∧ w'.ownsRow w.heap.size 39 9 v 0 [] ∧ RowKit.Below w.heap.size w w' ∧ (v = .slice none 0 0 ↔ n = 0) := by
  rcases Nat.eq_zero_or_pos n with h0 | h0
  · subst h0
    refine (Any8.slices_Grow_room Tryz.growReq none 0 0 0 w (Nat.le_refl _) (by omega) (by omega) (Nat.le_refl _)).mono ?_
    rintro e w' ⟨rfl, rfl⟩
    exact ⟨_, rfl, World.ownsRow_nil _ _ _ _, Below.refl _ _, by simp⟩
  · obtain ⟨i0, hi, hz0, hz1, hz2⟩ := info_parts req_info
    have hg := Any8.slices_Grow_grow Tryz.growReq i0 _ hi hz0 (by omega) none 0 0 n [] w (Nat.le_refl _) (by omega) (by rw [hz2]; omega) (by omega) (by simp) (fun _ => rfl) (fun a h => by cases h)
    refine hg.mono ?_
    rintro e w' ⟨rfl, rfl⟩
    refine ⟨_, rfl, ?_, (Below.refl _ w).drew.alloc (Nat.le_refl _) _, ⟨fun h => by simp at h, fun h => by omega⟩⟩
    have hge := grownCap_ge w (0 + n) 0 (Tryz.growReq_ren.t 25)
    have hle := grownCap_le_maxLen w (0 + n) 0 (Tryz.growReq_ren.t 25) (by unfold maxLen; omega)
    generalize hG : grownCap w (0 + n) 0 (Tryz.growReq_ren.t 25) = G at hge hle ⊢
    exact World.ownsRow_made w.drew _ G (Nat.le_refl _) hle (by
      simp only [Array.size_append, size_zeroCells, List.size_toArray, List.length_nil, Value.cells]
      simp
      omega)

def flatR (ps : List (Value × List Req)) : List Req := ps.flatMap (·.2)
theorem flatR_take (ps : List (Value × List Req)) (k : Nat) {p : Value × List Req} (h : ps[k]? = some p) : flatR (ps.take (k + 1)) = flatR (ps.take k) ++ p.2 := by
  unfold flatR; rw [List.take_add_one, h, List.flatMap_append]; simp
theorem flatR_le (ps : List (Value × List Req)) (k : Nat) : (flatR (ps.take k)).length ≤ (flatR ps).length := by
  conv => rhs; rw [← List.take_append_drop k ps]
  unfold flatR; rw [List.flatMap_append, List.length_append]; omega
/-- Rows of requests in a row. -/
def RowsAt (w : World) (ob oc : Nat) (ps : List (Value × List Req)) : Prop :=
  ob < w.heap.size ∧ ps.length ≤ oc ∧ ∀ k p, ps[k]? = some p → w.cell? ⟨ob, k, none⟩ = some p.1 ∧ ReqsIn w p.1 p.2
theorem RowsAt.below {w w' : World} {ob oc : Nat} {ps : List (Value × List Req)} (h : RowsAt w ob oc ps) (hb : RowKit.Below w.heap.size w w') : RowsAt w' ob oc ps :=
  ⟨Nat.lt_of_lt_of_le h.1 hb.size, h.2.1, fun k p hk => ⟨by rw [hb.cell (p := ⟨ob, k, none⟩) h.1]; exact (h.2.2 k p hk).1, (h.2.2 k p hk).2.below hb⟩⟩
set_option maxHeartbeats 4000000 in
set_option maxRecDepth 100000 in
theorem concat_any (ob oc : Nat) (ps : List (Value × List Req)) (w : World) (hR : RowsAt w ob oc ps) (hps : ps.length ≤ 1000) (hT : (flatR ps).length ≤ 1000000) :
    Calls Tryz.prog 70 #[.slice (some ⟨ob, 0, none⟩) ps.length oc] w fun e w' => ∃ v, e = .returned v ∧ w'.ownsRow w.heap.size 39 9 v (flatR ps).length (reqCells (flatR ps)) ∧ RowKit.Below w.heap.size w w' := by
  obtain ⟨i0, hi, hz0, hz1, hz2⟩ := info_parts req_info
  have HR := Lib.hid hR
  have hoc := hR.2.1
  clear hR
  go_enter Tryz.func70, Tryz.ntmps70
  go_wp2_with fail
  go_loopw [3, 11] (fun m i wr => ∃ (k n : Nat), k ≤ ps.length ∧ i = .int .i64 k ∧ m = .int .i64 n ∧ n ≤ 1000000 ∧ Hid (n = (flatR (ps.take k)).length) ∧ wr = w) (fun _ i _ => ps.length - (RowKit.intOf i).toNat)
  case atStart => exact ⟨0, 0, Nat.zero_le _, rfl, rfl, by omega, Lib.hid (by simp [flatR]), rfl⟩
  case round =>
    obtain ⟨k, n, hk, rfl, rfl, hn, HN, rfl⟩ := hrel
    by_cases hlt : k < ps.length
    · have hp := List.getElem?_eq_getElem hlt
      generalize ps[k] = p at hp
      obtain ⟨hc, hin⟩ := HR.out.2.2 k p hp
      obtain ⟨base, c, hv, hlc⟩ := hin.form
      rw [hv] at hc
      have hsum := flatR_le ps (k + 1)
      have hlen := flatR_take ps k hp
      rw [hlen, List.length_append, ← HN.out] at hsum
      have HN' : Hid (n + p.2.length = (flatR (ps.take (k + 1))).length) := Lib.hid (by rw [hlen, List.length_append, ← HN.out])
      clear hlen hv hin
      generalize p.2.length = l at hc hlc hsum HN'
      clear hp
      have a1 : IntKind.i64.wrap ((n : Int) + l) = ((n + l : Nat) : Int) := by rw [IntWalk.i64_in _ (by omega)]; omega
      have a2 : ¬ (((n + l : Nat) : Int) < 0) := by omega
      go_wp2_with fail
      go_roundw
      case rel => exact ⟨k + 1, n + l, by omega, by go_num, by go_num, by omega, HN', by first | rfl | trivial⟩
      case measure => simp [RowKit.intOf]; omega
    · obtain rfl : k = ps.length := by omega
      have cg := grow_nil n hn wr
      have HN' : Hid (n = (flatR ps).length) := Lib.hid (by have := HN.out; rwa [List.take_length] at this)
      clear HN hlt hk
      go_wp2_with fail
      refine cg.mono ?_
      rintro _ w1 ⟨v1, rfl, hrow1, hb1, -⟩
      go_wp2_with fail
      obtain ⟨W, rfl⟩ : ∃ w', w' = wr := ⟨_, rfl⟩
      go_loopw [6, 27] (fun v i wr => ∃ (k : Nat), k ≤ ps.length ∧ i = .int .i64 k ∧ wr.ownsRow W.heap.size 39 9 v (flatR (ps.take k)).length (reqCells (flatR (ps.take k))) ∧ RowKit.Below W.heap.size W wr) (fun _ i _ => ps.length - (RowKit.intOf i).toNat)
      case atStart => exact ⟨0, Nat.zero_le _, rfl, by simpa [flatR, reqCells] using hrow1, hb1⟩
      case round =>
        obtain ⟨k, hk, rfl, hown, hb⟩ := hrel
        by_cases hlt : k < ps.length
        · have hp := List.getElem?_eq_getElem hlt
          generalize ps[k] = p at hp
          obtain ⟨hc, hin⟩ := (HR.out.below hb).2.2 k p hp
          have hsum := flatR_le ps (k + 1)
          have hlen := flatR_take ps k hp
          have HL := Lib.hid hlen
          rw [hlen, List.length_append] at hsum
          clear hlen
          have hbs := hb.size
          rcases hin with ⟨hv, hnil⟩ | ⟨b, o, c, hv, hlc, hbl, hcells⟩
          · rw [hv] at hc
            clear hv
            go_wp2_with (at_builtin; go_must (refine wpList_append_own_none rfl _ _ 30 rfl W.heap.size 39 i0 9 Tryz.underlying30 hi _ _ _ rfl hown rfl ?_))
            go_roundw
            case rel => exact ⟨k + 1, by omega, by go_num, by rw [HL.out, hnil, List.append_nil]; exact hown, hb⟩
            case measure => simp [RowKit.intOf]; omega
          · rw [hv] at hc
            clear hv
            have hnews : ∀ (j : Nat) (u : Value), (reqCells p.2)[j]? = some u → wr.cell? ((⟨b, o, none⟩ : Addr).add j) = some u := fun j u hj => by rw [add_plain]; exact hcells j u hj
            have HC := Lib.hid hcells
            clear hcells
            go_wp2_with (at_builtin; go_must (refine wpList_append_own _ rfl _ _ 30 rfl W.heap.size 39 i0 _ 9 88 Tryz.underlying30 hi hz0 hz1 hz2 rfl (by decide) _ _ _ rfl hown ⟨b, o, none⟩ p.2.length c (reqCells p.2) rfl (reqCells_len _) hnews (reqs_one _) (by unfold maxLen; omega) (by omega) hbs ?_); intro v' w2 hown' hg' _)
            have hb' : RowKit.Below W.heap.size W w2 := hb.grown hg' hbs (fun q hq => (hown.lt q hq).1)
            go_wp2_with fail
            go_roundw
            case rel => exact ⟨k + 1, by omega, by go_num, by rw [HL.out, reqCells_app, List.length_append]; exact hown', hb'⟩
            case measure => simp [RowKit.intOf]; omega
        · obtain rfl : k = ps.length := by omega
          rw [List.take_length] at hown
          go_wp2_with fail
          go_ret
          exact ⟨_, rfl, hown, hb⟩
end Go.Proofs.YteopjiedjnaeiaaGreat
/- append of a slice of requests to a row of the call's own, as an operation of a region that draws. -/
namespace Go.Proofs.YteopjiedjnaeiaaGreat
open Go Go.Proofs Go.RowKit Go.Sort Go.Lib

set_option maxRecDepth 100000 in
theorem run_append_reqs (w : World) (base : Nat) (ty : TypeId) (v xv : Value) (X Y : List Req) (hown : w.ownsRow base 39 9 v X.length (reqCells X)) (hx : ReqsIn w xv Y) (hl : X.length + Y.length ≤ 1000000) (hb : base ≤ w.heap.size) :
    ∃ v' w', (Builtin.append_ #[30, 30] ty #[v, xv]).run Tryz.prog w = .ok v' w' ∧ w'.ownsRow base 39 9 v' (X ++ Y).length (reqCells (X ++ Y)) ∧ w.grownBy w' v.ownBlock := by
  obtain ⟨i0, hi, hz0, hz1, hz2⟩ := info_parts req_info
  rcases hx with ⟨rfl, rfl⟩ | ⟨b, o, c, rfl, h2, h3, h4⟩
  · refine ⟨v, w, run_append_owned_none w base 30 ty 39 i0 9 Tryz.underlying30 hi v X.length (reqCells X) hown, by simpa using hown, ?_⟩
    exact ⟨rfl, rfl, rfl, Nat.le_refl _, fun _ _ _ => rfl⟩
  · obtain ⟨v', w', hr, h5, h6, _⟩ := run_append_own (P := Tryz.prog) w base 30 ty 39 i0 _ 9 88 Tryz.underlying30 hi hz0 hz1 hz2 rfl (by decide) v X.length (reqCells X) hown ⟨b, o, none⟩ Y.length c (reqCells Y) (reqCells_len _)
      (fun j u hj => by rw [add_plain]; exact h4 j u hj) (reqs_one _) (by unfold maxLen; omega) (by omega) hb
    exact ⟨v', w', hr, by rw [reqCells_app, List.length_append]; exact h5, h6⟩
theorem wp_append_reqs {o : Oper} {a : Act} {w : World} {K : Act → World → Prop} {Q : Exit → Act → World → Prop} (s x : Operand) (ho : o.op = .call { callee := .builtin .append, args := #[s, x], argTypes := #[30, 30] })
    (base : Nat) (v xv : Value) (X Y : List Req) (hs : a.eval s = v) (hxv : a.eval x = xv) (hown : w.ownsRow base 39 9 v X.length (reqCells X)) (hx : ReqsIn w xv Y) (hl : X.length + Y.length ≤ 1000000) (hb : base ≤ w.heap.size)
    (h : ∀ v' w', w'.ownsRow base 39 9 v' (X ++ Y).length (reqCells (X ++ Y)) → w.grownBy w' v.ownBlock → K (a.put o.dst v') w') : o.wp Tryz.prog a w K Q := by
  obtain ⟨v', w', hr, h2, h3⟩ := run_append_reqs w base o.type v xv X Y hown hx hl hb
  unfold Oper.wp execOp
  simp only [ho, resolve, invoke, builtin, Sem.run_bind, Sem.run_pure, Result.andThen_ok, List.map_toArray, List.map_cons, List.map_nil, hs, hxv, hr]
  exact h v' w' h2 h3
theorem step_append_reqs {ops : Array Oper} {o : Oper} {a : Act} {w : World} {K : Act → World → Prop} {Q : Exit → Act → World → Prop} {E : Prop} (hgd : o.guard = none) (s x : Operand) (ho : o.op = .call { callee := .builtin .append, args := #[s, x], argTypes := #[30, 30] })
    (base : Nat) (v xv : Value) (X Y : List Req) (hs : a.eval s = v) (hxv : a.eval x = xv) (hown : w.ownsRow base 39 9 v X.length (reqCells X)) (hx : ReqsIn w xv Y) (hl : X.length + Y.length ≤ 1000000) (hb : base ≤ w.heap.size)
    (h : ∀ v' w', w'.ownsRow base 39 9 v' (X ++ Y).length (reqCells (X ++ Y)) → w.grownBy w' v.ownBlock → K (a.put o.dst v') w') :
    if Region.wanted o (yielded ops a.tmps) = true then Oper.wp Tryz.prog o a w K Q else E := by
  have hw : Region.wanted o (yielded ops a.tmps) = true := by simp [Region.wanted, hgd]
  rw [if_pos hw]
  exact wp_append_reqs s x ho base v xv X Y hs hxv hown hx hl hb h
theorem wpList_append_reqs {ops : Array Oper} {rest : List Oper} {o : Oper} {a : Act} {w : World} {Q : Exit → Act → World → Prop} (hgd : o.guard = none) (s x : Operand) (ho : o.op = .call { callee := .builtin .append, args := #[s, x], argTypes := #[30, 30] })
    (base : Nat) (v xv : Value) (X Y : List Req) (hs : a.eval s = v) (hxv : a.eval x = xv) (hown : w.ownsRow base 39 9 v X.length (reqCells X)) (hx : ReqsIn w xv Y) (hl : X.length + Y.length ≤ 1000000) (hb : base ≤ w.heap.size)
    (h : ∀ v' w', w'.ownsRow base 39 9 v' (X ++ Y).length (reqCells (X ++ Y)) → w.grownBy w' v.ownBlock → wpList Tryz.prog ops Q rest (a.put o.dst v') w') : wpList Tryz.prog ops Q (o :: rest) a w :=
  wpList_plain hgd fun _ hK => wp_append_reqs s x ho base v xv X Y hs hxv hown hx hl hb fun v' w' h2 h3 => hK _ _ (h v' w' h2 h3)
end Go.Proofs.YteopjiedjnaeiaaGreat
/- request.set: the set of all requests of lists. -/
namespace Go.Proofs.YteopjiedjnaeiaaGreat
open Go Go.Proofs Go.RowKit Go.Maps Go.Sort Go.Lib
attribute [local go_sem] Req.cells

/-- The map's keys are the list's requests. -/
def SetIs (D : DataW Unit) (L : List Req) : Prop := ∀ r : Req, r.wf → (Maps.has D (litR r) = true ↔ r ∈ L)
theorem SetIs.put {D : DataW Unit} {L : List Req} (h : SetIs D L) (hm : Maps.IsMap D) {x : Req} (hx : x.wf) (d : DataW Unit) : SetIs (D.put (litR x) d) (L ++ [x]) := fun r hr => by
  by_cases e : r = x
  · subst e
    simp [Maps.has_put_same hm (k := litR r) (by simp [litR, WideAt.IsKeyLit]) d]
  · rw [Maps.has_put_other (fun e' => e (litR_inj hr hx e')), h r hr]
    simp [e]
theorem SetIs.del {D : DataW Unit} {L : List Req} (h : SetIs D L) {x : Req} (hx : x.wf) : SetIs (D.del (litR x)) (L.filter fun r => !eqReq r x) := fun r hr => by
  by_cases e : r = x
  · subst e
    have : eqReq r r = true := (eqReq_iff r r).2 rfl
    simp [Maps.has_del_same, this]
  · rw [Maps.has_del_other (fun e' => e (litR_inj hr hx e')), h r hr]
    have : eqReq r x = false := by rw [Bool.eq_false_iff]; exact fun h => e ((eqReq_iff r x).1 h)
    simp [this]
set_option maxHeartbeats 4000000 in
set_option maxRecDepth 100000 in
theorem set_any (ob oc : Nat) (ps : List (Value × List Req)) (w : World) (hR : RowsAt w ob oc ps) (hps : ps.length ≤ 1000) (hT : (flatR ps).length ≤ 1000000) (hwf : ∀ r ∈ flatR ps, r.wf) :
    Calls Tryz.prog 53 #[.slice (some ⟨ob, 0, none⟩) ps.length oc] w fun e w' => ∃ D, e = .returned (.map (some w.heap.size)) ∧ w'.ownsMap Tryz.prog 39 (plainElem Tryz.prog 4) w.heap.size (flatR ps).length D ∧ SetIs D (flatR ps) ∧ RowKit.Below w.heap.size w w' := by
  have hmm := @run_makeMap Tryz.prog
  have hmd : (w.alloc (.map #[] 0)).ownsMap Tryz.prog 39 (plainElem (H := Unit) Tryz.prog 4) w.heap.size 0 (.map []) := World.ownsMap_made w _ _ _
  have hb0 : RowKit.Below w.heap.size w (w.alloc (.map #[] 0)) := (Below.refl _ w).alloc (Nat.le_refl _) _
  have cc := concat_any ob oc ps _ (hR.below hb0) hps hT
  have hs1 : (w.alloc (.map #[] 0)).heap.size = w.heap.size + 1 := by simp
  rw [hs1] at cc
  obtain ⟨L, hL⟩ : ∃ L, flatR ps = L := ⟨_, rfl⟩
  rw [hL] at hT hwf cc ⊢
  go_enter Tryz.func53, Tryz.ntmps53
  go_wp2_with fail
  refine cc.mono ?_
  rintro _ w1 ⟨v, rfl, hrow, hb1⟩
  have hmd1 := hmd.kept (row := none) ⟨hb1.os, hb1.tape, hb1.output, by have := hb1.size; omega, fun i hi _ => hb1.block i (by rw [hs1] at hi; exact hi)⟩ (by simp)
  have hb1' : RowKit.Below w.heap.size w w1 := hb0.trans (hb1.mono (by omega))
  clear hL hR cc hmd hmm hb0 hs1 hb1
  obtain ⟨base, c, rfl, hlc⟩ := (reqsIn_own hrow).form
  go_wp2_with fail
  go_loopw [10] (fun i wr => ∃ (k : Nat) (D : DataW Unit), k ≤ L.length ∧ i = .int .i64 k ∧ wr.ownsMap Tryz.prog 39 (plainElem Tryz.prog 4) w.heap.size k D ∧ SetIs D (L.take k) ∧ wr.ownsRow (w.heap.size + 1) 39 9 (.slice base L.length c) L.length (reqCells L) ∧ RowKit.Below w.heap.size w wr) (fun i _ => L.length - (RowKit.intOf i).toNat)
  case atStart => exact ⟨0, .map [], Nat.zero_le _, rfl, hmd1, fun r _ => by simp [Maps.has_eq], hrow, hb1'⟩
  case round =>
    obtain ⟨k, D, hk, rfl, hown, hD, hrw, hb⟩ := hrel
    by_cases hlt : k < L.length
    · obtain ⟨b, o, c', hv, _, hbl, hat⟩ := (reqsIn_own hrw).at_ (by omega)
      have hx := List.getElem?_eq_getElem hlt
      have hxm := hwf _ (List.getElem_mem hlt)
      generalize L[k] = x at hx hxm
      have hatk := hat k x hx
      have HX := Lib.hid hx
      injection hv with e1 e2 e3
      have HE := Lib.hid e3
      subst e1
      have ho : o = 0 := by
        rcases hrw.2 with ⟨h, _⟩ | ⟨g, cap, cur, h, _⟩
        · cases h
        · injection h with h1; injection h1 with h1; injection h1 with _ h2
      subst ho
      rw [Nat.zero_add] at hatk
      have hown1 := hown.alloc (.cells x.cells 39)
      have hrw1 := hrw.alloc (.cells x.cells 39)
      have hk63 : k < maxLen := by unfold maxLen; omega
      have hD' := hD.put hown.isMap hxm (.lit (.bool true))
      have HL : Hid (L.take (k + 1) = L.take k ++ [x]) := Lib.hid (by rw [List.take_add_one, HX.out]; rfl)
      clear hx hat e2 e3
      go_wp2_with (first
        | (refine wpList_load_mid rfl 39 (.tmp 12) rfl _ _ rfl x.cells.toList _ hatk Tryz.underlying39 rfl (by kernel_rfl) ?_)
        | (at_mapUpdate; refine wpList_mapUpdate_own _ rfl _ _ _ 103 rfl 39 4 rq_keyed Tryz.underlying103 _ w.heap.size k D rfl hown1 hk63 x.val (.bool true) (litR x) rfl rfl (key_req x hxm) (.lit (.bool true)) [] (plainElem_bool Tryz.underlying4 true) ?_; intro w2 hown2 hg2))
      have hb1 : RowKit.Below w.heap.size w (wr.alloc (.cells x.cells 39)) := hb.alloc hb.size _
      have hb2 := hb1.grown hg2 hb1.size (fun q hq => by cases hq; exact Nat.le_refl _)
      have hrw2 := hrw1.kept hg2 (.inr fun e => by have := (hrw1.lt _ e).1; omega)
      clear hg2 hb1 hown1 hrw1 hatk
      go_wp2_with fail
      go_roundw
      case rel => exact ⟨k + 1, _, by omega, by go_num, hown2, by rw [HL.out]; exact hD', hrw2, hb2⟩
      case measure => simp [RowKit.intOf]; omega
    · obtain rfl : k = L.length := by omega
      rw [List.take_length] at hD
      go_wp2_with fail
      go_ret
      exact ⟨D, rfl, hown, hD, hb⟩
end Go.Proofs.YteopjiedjnaeiaaGreat
/- request.Join and request.Missing: the set, in order. -/
namespace Go.Proofs.YteopjiedjnaeiaaGreat
open Go Go.Proofs Go.RowKit Go.Maps Go.Sort Go.Lib
attribute [local go_sem] Req.cells

/-- M is the set of L, in order. -/
def IsSet (M L : List Req) : Prop := M.Pairwise (fun a b => cmpR a b < 0) ∧ ∀ r, r ∈ M ↔ r ∈ L
theorem sorted_same {α : Type} (lt : α → α → Prop) (irr : ∀ a, ¬ lt a a) (asym : ∀ a b, lt a b → lt b a → False) : ∀ M M' : List α, M.Pairwise lt → M'.Pairwise lt → (∀ r, r ∈ M ↔ r ∈ M') → M = M'
  | [], [], _, _, _ => rfl
  | [], b :: M', _, _, h => by have := (h b).2 (by simp); cases this
  | a :: M, [], _, _, h => by have := (h a).1 (by simp); cases this
  | a :: M, b :: M', h1, h2, h => by
    obtain ⟨p1, q1⟩ := List.pairwise_cons.1 h1
    obtain ⟨p2, q2⟩ := List.pairwise_cons.1 h2
    have e : a = b := by
      rcases List.mem_cons.1 ((h a).1 (by simp)) with e | e
      · exact e
      · rcases List.mem_cons.1 ((h b).2 (by simp)) with e' | e'
        · exact e'.symm
        · exact absurd (p2 a e) (fun hl => asym _ _ hl (p1 b e'))
    subst e
    rw [sorted_same lt irr asym M M' q1 q2 fun r => ⟨fun hr => by
        rcases List.mem_cons.1 ((h r).1 (by simp [hr])) with rfl | h'
        · exact absurd (p1 _ hr) (irr _)
        · exact h', fun hr => by
        rcases List.mem_cons.1 ((h r).2 (by simp [hr])) with rfl | h'
        · exact absurd (p2 _ hr) (irr _)
        · exact h'⟩]
theorem cmpR_irr (a : Req) : ¬ cmpR a a < 0 := by have := cmpR_ok.swap a a; omega
theorem cmpR_asym (a b : Req) (h : cmpR a b < 0) (h' : cmpR b a < 0) : False := by have := cmpR_ok.swap a b; omega
theorem IsSet.same {M M' L : List Req} (h : IsSet M L) (h' : IsSet M' L) : M = M' :=
  sorted_same _ cmpR_irr cmpR_asym M M' h.1 h'.1 fun r => (h.2 r).trans (h'.2 r).symm
theorem IsSet.congr {M L L' : List Req} (h : IsSet M L) (e : ∀ r, r ∈ L ↔ r ∈ L') : IsSet M L' := ⟨h.1, fun r => (h.2 r).trans (e r)⟩
theorem isSet_sortR {ks L : List Req} (hn : ks.Nodup) (hm : ∀ r, r ∈ ks ↔ r ∈ L) : IsSet (sortR ks) L := by
  have hp : (sortR ks).Perm ks := List.mergeSort_perm ks _
  have hs : (sortR ks).Pairwise fun x y => (!(ltOf cmpR) y x) = true := List.pairwise_mergeSort
    (fun a b c h1 h2 => by
      have a1 := cmpR_ok.swap a b; have a2 := cmpR_ok.swap b c; have a3 := cmpR_ok.swap a c
      have b1 := cmpR_ok.le a b c
      simp only [ltOf, Bool.not_eq_true', decide_eq_false_iff_not] at *
      omega)
    (fun a b => by
      have a1 := cmpR_ok.swap a b
      by_cases h : cmpR a b < 0
      · have : ¬ cmpR b a < 0 := by omega
        simp [ltOf, this]
      · simp [ltOf, h]) ks
  have hd : (sortR ks).Nodup := hp.nodup_iff.2 hn
  refine ⟨(hs.and hd).imp fun {a b} h => ?_, fun r => (hp.mem_iff).trans (hm r)⟩
  obtain ⟨h1, h2⟩ := h
  have a1 := cmpR_ok.swap a b
  have a2 : cmpR a b ≠ 0 := fun h => h2 ((cmpR_zero a b).1 h)
  simp only [ltOf, Bool.not_eq_true', decide_eq_false_iff_not] at h1
  omega
theorem keys_set {D : DataW Unit} {ks L : List Req} (h : KeysR D ks) (hs : SetIs D L) (hwf : ∀ r ∈ L, r.wf) : IsSet (sortR ks) L :=
  isSet_sortR h.1 fun r => ⟨fun hr => (hs r (h.2.1 r hr)).1 ((h.2.2 r (h.2.1 r hr)).1 hr), fun hr => (h.2.2 r (hwf r hr)).2 ((hs r (hwf r hr)).2 hr)⟩
/-- request.sorted over a set. -/
theorem sorted_set {b n : Nat} {D : DataW Unit} {L : List Req} {w : World} (hown : w.ownsMap Tryz.prog 39 (plainElem Tryz.prog 4) b n D) (hn : n ≤ 1000000) (hs : SetIs D L) (hwf : ∀ r ∈ L, r.wf) :
    Calls Tryz.prog 52 #[.map (some b)] w fun e w' => ∃ v M, e = .returned v ∧ IsSet M L ∧ w'.ownsRow w.heap.size 39 9 v M.length (reqCells M) ∧ RowKit.Below w.heap.size w w' := by
  obtain ⟨es, rfl⟩ := hown.isMap
  have hz := hown.size_le
  refine (sorted_any b n es w hown (by unfold maxLen; omega) (by omega)).mono ?_
  rintro e w' ⟨v, ks, rfl, hk, hr, _, hb⟩
  exact ⟨v, sortR ks, rfl, keys_set hk hs hwf, by rw [sortR_len]; exact hr, hb⟩
set_option maxHeartbeats 4000000 in
set_option maxRecDepth 100000 in
theorem join_any (a b : Value) (A B : List Req) (w : World) (ha : ReqsIn w a A) (hb : ReqsIn w b B) (hl : A.length + B.length ≤ 1000000) (hwf : ∀ r ∈ A ++ B, r.wf) :
    Calls Tryz.prog 38 #[a, b] w fun e w' => ∃ v M, e = .returned v ∧ IsSet M (A ++ B) ∧ w'.ownsRow w.heap.size 39 9 v M.length (reqCells M) ∧ RowKit.Below w.heap.size w w' := by
  obtain ⟨ba, ca, rfl, _⟩ := ha.form
  obtain ⟨bb, cb, rfl, _⟩ := hb.form
  obtain ⟨a, hae⟩ : ∃ a, a = Value.slice ba A.length ca := ⟨_, rfl⟩
  obtain ⟨b, hbe⟩ : ∃ b, b = Value.slice bb B.length cb := ⟨_, rfl⟩
  rw [← hae] at ha ⊢
  rw [← hbe] at hb ⊢
  have hb1 : RowKit.Below w.heap.size w (w.alloc (.cells #[a, b] 30)) := (Below.refl _ w).alloc (Nat.le_refl _) _
  have hR : RowsAt (w.alloc (.cells #[a, b] 30)) w.heap.size 2 [(a, A), (b, B)] := by
    refine ⟨by simp, Nat.le_refl _, fun k p hk => ?_⟩
    match k, hk with
    | 0, hk => cases hk; exact ⟨Lib.cell_of_heap (heap_alloc_new w _) 0, ha.below hb1⟩
    | 1, hk => cases hk; exact ⟨Lib.cell_of_heap (heap_alloc_new w _) 1, hb.below hb1⟩
  have hf : flatR [(a, A), (b, B)] = A ++ B := by simp [flatR]
  have cs := set_any w.heap.size 2 [(a, A), (b, B)] _ hR (by simp) (by rw [hf]; simpa using hl) (by rw [hf]; exact hwf)
  rw [hf] at cs
  have hlen : (A ++ B).length ≤ 1000000 := by simpa using hl
  generalize A ++ B = L at cs hwf hlen ⊢
  have hs1 : (w.alloc (.cells #[a, b] 30)).heap.size = w.heap.size + 1 := by simp
  clear hR hf ha hb
  generalize A.length = la at hae
  generalize B.length = lb at hbe
  simp only [List.length_cons, List.length_nil, Nat.zero_add, Nat.reduceAdd] at cs
  subst hae hbe
  go_enter Tryz.func38, Tryz.ntmps38
  go_wp2_with fail
  refine cs.mono ?_
  rintro _ w1 ⟨D, rfl, hown, hs, hb2⟩
  rw [hs1] at hown
  have c2 := sorted_set hown hlen hs hwf
  have hb3 : RowKit.Below w.heap.size w w1 := hb1.trans (hb2.mono (by omega))
  clear cs hown
  go_wp2_with fail
  refine c2.mono ?_
  rintro _ w2 ⟨v, M, rfl, hM, hrow, hb4⟩
  go_wp2_with fail
  go_ret
  exact ⟨v, M, rfl, hM, row_base hrow hb3.size, hb3.trans (hb4.mono hb3.size)⟩








































































end Go.Proofs.YteopjiedjnaeiaaGreat
namespace Go.Proofs.YteopjiedjnaeiaaGreat
open Go Go.Proofs Go.RowKit Go.Sort Go.Lib

theorem cmpR_lt_trans {a b c : Req} (h1 : cmpR a b < 0) (h2 : cmpR b c < 0) : cmpR a c < 0 := by
  have a1 := cmpR_ok.swap a b; have a2 := cmpR_ok.swap b c; have a3 := cmpR_ok.swap a c
  have b1 := cmpR_ok.le a b c
  have b3 := cmpR_ok.le c a b
  omega
/-- A request put into a set at its place. -/
theorem put_new {M L : List Req} (h : IsSet M L) (r : Req) (k : Nat) (hlo : ∀ x ∈ M.take k, cmpR x r < 0) (hhi : ∀ y ∈ M.drop k, ¬ cmpR y r < 0) (hne : M[k]? ≠ some r) : IsSet (M.take k ++ r :: M.drop k) (L ++ [r]) := by
  have hM : M = M.take k ++ M.drop k := (List.take_append_drop k M).symm
  have hp := h.1
  rw [hM, List.pairwise_append] at hp
  obtain ⟨p1, p2, p3⟩ := hp
  have hgt : ∀ y ∈ M.drop k, cmpR r y < 0 := by
    intro y hy
    have hsw := cmpR_ok.swap y r
    have h1 := hhi y hy
    have h2 : cmpR y r ≠ 0 := by
      intro e
      have ey := (cmpR_zero y r).1 e
      subst ey
      rcases hd : M.drop k with _ | ⟨z, t⟩
      · rw [hd] at hy; cases hy
      · have hz : M[k]? = some z := by
          have := congrArg (fun l => l[0]?) hd
          simpa using this
        rw [hd] at hy p2
        rcases List.mem_cons.1 hy with rfl | hy'
        · exact hne hz
        · have := (List.pairwise_cons.1 p2).1 y hy'
          exact hhi z (by rw [hd]; simp) this
    omega
  refine ⟨List.pairwise_append.2 ⟨p1, List.pairwise_cons.2 ⟨hgt, p2⟩, fun a ha b hb => ?_⟩, fun x => ?_⟩
  · rcases List.mem_cons.1 hb with rfl | hb
    · exact hlo a ha
    · exact p3 a ha b hb
  · have hx := h.2 x
    rw [hM] at hx
    simp only [List.mem_append, List.mem_cons, List.not_mem_nil, or_false] at hx ⊢
    rw [← hx]
    constructor
    · rintro (h | h | h) <;> simp [h]
    · rintro ((h | h) | h) <;> simp [h]
/-- .. one that is there already. -/
theorem put_old {M L : List Req} (h : IsSet M L) (r : Req) (hr : r ∈ M) : IsSet M (L ++ [r]) :=
  h.congr fun x => by
    have := (h.2 r).1 hr
    simp only [List.mem_append, List.mem_cons, List.not_mem_nil, or_false]
    exact ⟨fun hx => .inl hx, fun hx => hx.elim id fun e => by rw [e]; exact this⟩
theorem isSet_nil : IsSet [] [] := ⟨List.Pairwise.nil, fun _ => Iff.rfl⟩
/-- Where the search from the end stops. -/
theorem put_lo {M L : List Req} (h : IsSet M L) (r : Req) (k : Nat) (hk : k ≤ M.length) (hs : ∀ x, 0 < k → M[k - 1]? = some x → cmpR x r < 0) : ∀ x ∈ M.take k, cmpR x r < 0 := by
  intro x hx
  have hk0 : 0 < k := by
    rcases Nat.eq_zero_or_pos k with rfl | h0
    · simp at hx
    · exact h0
  have hlt : k - 1 < M.length := by omega
  have hlast := hs M[k - 1] hk0 (List.getElem?_eq_getElem hlt)
  obtain ⟨j, hj, rfl⟩ := List.mem_iff_getElem.1 hx
  have hjk : j < k := by simp at hj; omega
  rw [List.getElem_take]
  rcases Nat.lt_or_ge j (k - 1) with h1 | h1
  · exact cmpR_lt_trans (List.pairwise_iff_getElem.1 h.1 j (k - 1) (by omega) hlt h1) hlast
  · obtain rfl : j = k - 1 := by omega
    exact hlast
end Go.Proofs.YteopjiedjnaeiaaGreat
