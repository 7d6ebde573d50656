/- Plain laws of sets of requests: what is missing, what is active. -/
import Derived.Test.YteopjiedjnaeiaaGreatDgae
import Derived.Deep.MidRow
import Derived.Test.YteopjiedjnaeiaaGreatDgaf
/- Rows of anything: a slice whose elements lie one behind the other, k cells each. -/
namespace Go.Proofs.YteopjiedjnaeiaaGreat
open Go Go.Proofs Go.RowKit Go.Sort Go.Lib

section
variable {α : Type}
def flatE (enc : α → List Value) (L : List α) : List Value := L.flatMap enc
theorem flatE_app (enc : α → List Value) (L M : List α) : flatE enc (L ++ M) = flatE enc L ++ flatE enc M := by simp [flatE]
theorem flatE_len {enc : α → List Value} {k : Nat} (hk : ∀ x, (enc x).length = k) : ∀ L : List α, (flatE enc L).length = L.length * k
  | [] => by simp [flatE]
  | x :: L => by
    have e : flatE enc (x :: L) = enc x ++ flatE enc L := rfl
    rw [e, List.length_append, hk, flatE_len hk L, List.length_cons, Nat.add_mul]; omega
theorem flatE_one {enc : α → List Value} (h1 : ∀ x, ∀ u ∈ enc x, u.oneCell' = true) (L : List α) : ∀ u ∈ flatE enc L, u.oneCell' = true := by
  intro u hu
  unfold flatE at hu
  obtain ⟨x, _, hx⟩ := List.mem_flatMap.1 hu
  exact h1 x u hx
theorem flatE_at {enc : α → List Value} {k : Nat} (hk : ∀ x, (enc x).length = k) {L : List α} {i j : Nat} {x : α} {u : Value} (hi : L[i]? = some x) (hj : (enc x)[j]? = some u) : (flatE enc L)[i * k + j]? = some u := by
  obtain ⟨hi1, rfl⟩ := List.getElem?_eq_some_iff.1 hi
  have hjk : j < k := by have := (List.getElem?_eq_some_iff.1 hj).1; rwa [hk] at this
  have e : L = L.take i ++ L[i] :: L.drop (i + 1) := by rw [List.getElem_cons_drop, List.take_append_drop]
  have ht : (L.take i).length = i := by simp; omega
  have hq : (flatE enc L)[i * k + j]? = (flatE enc (L.take i ++ L[i] :: L.drop (i + 1)))[i * k + j]? := by rw [← e]
  rw [hq, flatE_app, show flatE enc (L[i] :: L.drop (i + 1)) = enc L[i] ++ flatE enc (L.drop (i + 1)) from rfl,
    List.getElem?_append_right (by rw [flatE_len hk, ht]; omega), flatE_len hk, ht, show i * k + j - i * k = j by omega,
    List.getElem?_append_left (List.getElem?_eq_some_iff.1 hj).1]
  exact hj
/-- The elements lie from block b, offset o on. -/
def CellsAt (enc : α → List Value) (w : World) (b o : Nat) (L : List α) : Prop := ∀ (j : Nat) (u : Value), (flatE enc L)[j]? = some u → w.cell? ⟨b, o + j, none⟩ = some u
/-- A slice of them, as a world holds it. -/
def RowIn (enc : α → List Value) (w : World) (v : Value) (L : List α) : Prop := ∃ p c, v = .slice p L.length c ∧ L.length ≤ c ∧ (p = none → c = 0) ∧ (0 < L.length → ∃ b o, p = some ⟨b, o, none⟩ ∧ b < w.heap.size ∧ CellsAt enc w b o L)
variable {enc : α → List Value} {k : Nat} {w w' : World} {v : Value} {L : List α}
theorem RowIn.nil (enc : α → List Value) (w : World) : RowIn enc w (.slice none 0 0) [] := ⟨none, 0, rfl, Nat.zero_le _, fun _ => rfl, fun h => by cases h⟩
theorem RowIn.below (h : RowIn enc w v L) (hb : RowKit.Below w.heap.size w w') : RowIn enc w' v L := by
  obtain ⟨p, c, hv, hc, hz, hr⟩ := h
  refine ⟨p, c, hv, hc, hz, fun hl => ?_⟩
  obtain ⟨b, o, hp, hbs, hx⟩ := hr hl
  exact ⟨b, o, hp, Nat.lt_of_lt_of_le hbs hb.size, fun j u hj => by rw [hb.cell (p := ⟨b, o + j, none⟩) hbs]; exact hx j u hj⟩
theorem RowIn.form (h : RowIn enc w v L) : ∃ p c, v = .slice p L.length c ∧ L.length ≤ c := by
  obtain ⟨p, c, hv, hc, _, _⟩ := h
  exact ⟨p, c, hv, hc⟩
theorem RowIn.at_ (h : RowIn enc w v L) (hk : ∀ x, (enc x).length = k) (hl : 0 < L.length) : ∃ b o c, v = .slice (some ⟨b, o, none⟩) L.length c ∧ L.length ≤ c ∧ b < w.heap.size ∧ ∀ i x, L[i]? = some x → w.rangeAt b (o + i * k) (enc x) := by
  obtain ⟨p, c, hv, hc, _, hr⟩ := h
  obtain ⟨b, o, rfl, hbs, hx⟩ := hr hl
  refine ⟨b, o, c, hv, hc, hbs, fun i x hi j u hj => ?_⟩
  rw [Nat.add_assoc]
  exact hx _ _ (flatE_at hk hi hj)
theorem RowIn.take (h : RowIn enc w v L) {p : Option Addr} {n c m : Nat} (hv : v = .slice p n c) (hm : m ≤ L.length) : RowIn enc w (.slice p m c) (L.take m) := by
  obtain ⟨p', c', hv', hc, hz, hr⟩ := h
  rw [hv'] at hv
  injection hv with e1 e2 e3
  subst e1; subst e2; subst e3
  have hlen : (L.take m).length = m := by simp; omega
  refine ⟨p', c', by rw [hlen], by omega, hz, fun hl => ?_⟩
  obtain ⟨b, o, hp, hbs, hx⟩ := hr (by omega)
  refine ⟨b, o, hp, hbs, fun j u hj => hx j u ?_⟩
  have e : flatE enc L = flatE enc (L.take m) ++ flatE enc (L.drop m) := by rw [← flatE_app, List.take_append_drop]
  rw [e, List.getElem?_append_left (List.getElem?_eq_some_iff.1 hj).1]
  exact hj
theorem RowIn.drop {b o c : Nat} (h : RowIn enc w (.slice (some ⟨b, o, none⟩) L.length c) L) (hk : ∀ x, (enc x).length = k) {m : Nat} (hm : m ≤ L.length) : RowIn enc w (.slice (some ⟨b, o + m * k, none⟩) (L.length - m) (c - m)) (L.drop m) := by
  obtain ⟨p', c', hv', hc, _, hr⟩ := h
  injection hv' with e1 e2 e3
  subst e1; subst e3
  have hlen : (L.drop m).length = L.length - m := by simp
  refine ⟨_, _, by rw [hlen], by omega, fun hn => (by cases hn), fun hl => ?_⟩
  obtain ⟨b', o', hp, hbs, hx⟩ := hr (by omega)
  injection hp with hp
  injection hp with e1 e2
  subst e1; subst e2
  refine ⟨_, _, rfl, hbs, fun j u hj => ?_⟩
  rw [Nat.add_assoc]
  refine hx _ _ ?_
  have e : flatE enc L = flatE enc (L.take m) ++ flatE enc (L.drop m) := by rw [← flatE_app, List.take_append_drop]
  have ht : (flatE enc (L.take m)).length = m * k := by rw [flatE_len hk]; congr 1; simp; omega
  rw [e, List.getElem?_append_right (by rw [ht]; omega), ht, show m * k + j - m * k = j by omega]
  exact hj
theorem rowIn_own {base n : Nat} {e : TypeId} (hk : ∀ x, (enc x).length = k) (hk0 : 0 < k) (h : w.ownsRow base e k v n (flatE enc L)) : RowIn enc w v L := by
  have hn : n = L.length := by
    have := h.1
    rw [flatE_len hk] at this
    exact (Nat.eq_of_mul_eq_mul_right hk0 this).symm
  subst hn
  rcases h.2 with ⟨rfl, h0⟩ | ⟨g, cap, cur, rfl, _, hg, h2, _, _, h5⟩
  · have e := List.eq_nil_of_length_eq_zero h0
    subst e
    exact RowIn.nil _ _
  · refine ⟨_, cap, rfl, h2, fun hn => (by cases hn), fun _ => ⟨g, 0, rfl, (Array.getElem?_eq_some_iff.1 hg).1, fun j u hj => ?_⟩⟩
    rw [Nat.zero_add, Lib.cell_of_heap hg]
    rw [← h5, List.getElem?_take] at hj
    split at hj
    · simpa using hj
    · cases hj
theorem rowIn_lit {e : TypeId} (w : World) (L : List α) (cs : Array Value) (b : Nat) (hb : w.heap.size = b) (hcs : cs.toList = flatE enc L) (n : Nat) (hn : L.length = n) : RowIn enc (w.alloc (.cells cs e)) (.slice (some ⟨b, 0, none⟩) n n) L := by
  subst hb; subst hn
  refine ⟨_, _, rfl, Nat.le_refl _, fun hn => (by cases hn), fun _ => ⟨_, _, rfl, by simp, fun j u hj => ?_⟩⟩
  rw [Nat.zero_add, Lib.cell_of_heap (heap_alloc_new w _)]
  rw [← hcs] at hj
  simpa using hj

/-- What the type table says of an element and of its row. -/
structure RowT (P : Program) (enc : α → List Value) (k : Nat) (e t : TypeId) : Prop where
  len : ∀ x, (enc x).length = k
  one : ∀ x, ∀ u ∈ enc x, u.oneCell' = true
  pos : 0 < k
  und : P.underlying t = some (.slice e)
  info : ∃ i0 z, P.info? e = some i0 ∧ i0.zero = some z ∧ i0.size = k ∧ z.cells.size = k ∧ i0.bytes ≤ 1000
/-- What stands behind an append. -/
structure AppT (enc : α → List Value) (k : Nat) (e : TypeId) (w : World) (base : Nat) (v : Value) (X Y : List α) (v' : Value) (w' : World) : Prop where
  own : w'.ownsRow base e k v' (X ++ Y).length (flatE enc (X ++ Y))
  grown : w.grownBy w' v.ownBlock
  old : RowIn enc w' v X
  block : v'.ownBlock = v.ownBlock ∨ ∀ q, v'.ownBlock = some q → w.heap.size ≤ q
theorem run_append_row {P : Program} {e t : TypeId} (R : RowT P enc k e t) (w : World) (base : Nat) (ty : TypeId) (v xv : Value) (X Y : List α) (hown : w.ownsRow base e k v X.length (flatE enc X)) (hx : RowIn enc w xv Y) (hl : X.length + Y.length ≤ 1000000) (hb : base ≤ w.heap.size) :
    ∃ v' w', (Builtin.append_ #[t, t] ty #[v, xv]).run P w = .ok v' w' ∧ AppT enc k e w base v X Y v' w' := by
  obtain ⟨i0, z, hi, hz0, hz1, hz2, hz3⟩ := R.info
  have hk := flatE_len R.len
  have hby : (X.length + Y.length) * i0.bytes ≤ 140737488355328 := Nat.le_trans (Nat.mul_le_mul hl hz3) (by decide)
  obtain ⟨p, c, rfl, hc, hnil, hr⟩ := hx
  rcases p with _ | ad
  · obtain rfl := hnil rfl
    obtain rfl : Y = [] := List.eq_nil_of_length_eq_zero (by omega)
    refine ⟨v, w, run_append_owned_none w base t ty e i0 k R.und hi v X.length (flatE enc X) hown, by simpa using hown, ⟨rfl, rfl, rfl, Nat.le_refl _, fun _ _ _ => rfl⟩, rowIn_own R.len R.pos hown, .inl rfl⟩
  · have hnews : ∀ (j : Nat) (u : Value), (flatE enc Y)[j]? = some u → w.cell? (ad.add j) = some u := fun j u hj => by
      have hY : 0 < Y.length := by
        rcases Nat.eq_zero_or_pos Y.length with h0 | h0
        · rw [List.eq_nil_of_length_eq_zero h0] at hj; simp [flatE] at hj
        · exact h0
      obtain ⟨b, o, hp, _, hx⟩ := hr hY
      injection hp with hp
      subst hp
      rw [add_plain]; exact hx j u hj
    obtain ⟨v', w', hr, h5, h6, h7⟩ := run_append_own (P := P) w base t ty e i0 z k i0.bytes R.und hi hz0 hz1 rfl hz2 R.pos v X.length (flatE enc X) hown ad Y.length c (flatE enc Y) (hk _)
      hnews (flatE_one R.one _) (by unfold maxLen; omega) hby hb
    suffices h : RowIn enc w' v X ∧ (v'.ownBlock = v.ownBlock ∨ ∀ q, v'.ownBlock = some q → w.heap.size ≤ q) from ⟨v', w', hr, by rw [flatE_app, List.length_append]; exact h5, h6, h.1, h.2⟩
    rcases id hown.2 with ⟨rfl, h0⟩ | ⟨g, cap, cur, rfl, hbg, hg, hnc, hcm, hcs, htake⟩
    · have hX : X = [] := List.eq_nil_of_length_eq_zero h0
      subst hX
      refine ⟨RowIn.nil _ _, ?_⟩
      by_cases hm : Y.length = 0
      · left
        rw [h7.2 ⟨rfl, hm⟩]
      · right
        have hr2 := run_append_nil (P := P) w t ty e i0 z R.und hi hz0 ad Y.length c (flatE enc Y) (by rw [hk, hz1]) hnews (by omega) (by omega) (by have : Y.length * i0.bytes ≤ (([] : List α).length + Y.length) * i0.bytes := Nat.mul_le_mul_right _ (by simp); omega)
        rw [hr] at hr2
        injection hr2 with e1 e2
        subst e1
        exact fun q hq => by obtain rfl := Option.some.inj hq; exact Nat.le_refl _
    · by_cases hroom : X.length + Y.length ≤ cap
      · have hfit : X.length * i0.size + (flatE enc Y).length ≤ cur.size := by rw [hk, hcs, hz1, ← Nat.add_mul]; exact Nat.mul_le_mul_right _ hroom
        have hr2 := run_append_room (P := P) w t ty e i0 R.und hi g X.length cap cur hg ad Y.length c (flatE enc Y) (by rw [hk, hz1]) hnews (flatE_one R.one _) hroom hfit
        rw [hr] at hr2
        injection hr2 with e1 e2
        subst e1
        refine ⟨⟨_, cap, rfl, hnc, fun hn => (by cases hn), fun _ => ⟨g, 0, rfl, (h5.lt g rfl).2, fun j u hj => ?_⟩⟩, .inl rfl⟩
        have := h5.cells (g := g) rfl j u (by rw [List.getElem?_append_left (List.getElem?_eq_some_iff.1 hj).1]; exact hj)
        rw [add_plain] at this; exact this
      · have holds : ∀ j u, (flatE enc X)[j]? = some u → w.cell? ((⟨g, 0, none⟩ : Addr).add j) = some u := hown.cells (g := g) rfl
        have hr2 := run_append_grow (P := P) w t ty e i0 z R.und hi hz0 ⟨g, 0, none⟩ X.length cap (flatE enc X) (by rw [hk, hz1]) holds ad Y.length c (flatE enc Y) (by rw [hk, hz1]) hnews (by omega) (by omega) (growslice_fits (by omega) (by omega))
        rw [hr] at hr2
        injection hr2 with e1 e2
        subst e1 e2
        exact ⟨(rowIn_own R.len R.pos hown).below ((Below.refl _ w).drew.alloc (Nat.le_refl _) _), .inr fun q hq => by obtain rfl := Option.some.inj hq; exact Nat.le_refl _⟩
theorem wp_append_row {P : Program} {e t : TypeId} (R : RowT P enc k e t) {o : Oper} {a : Act} {w : World} {K : Act → World → Prop} {Q : Exit → Act → World → Prop} (s x : Operand) (ho : o.op = .call { callee := .builtin .append, args := #[s, x], argTypes := #[t, t] })
    (base : Nat) (v xv : Value) (X Y : List α) (hs : a.eval s = v) (hxv : a.eval x = xv) (hown : w.ownsRow base e k v X.length (flatE enc X)) (hx : RowIn enc w xv Y) (hl : X.length + Y.length ≤ 1000000) (hb : base ≤ w.heap.size)
    (h : ∀ v' w', AppT enc k e w base v X Y v' w' → K (a.put o.dst v') w') : o.wp P a w K Q := by
  obtain ⟨v', w', hr, h2⟩ := run_append_row R w base o.type v xv X Y hown hx hl hb
  unfold Oper.wp execOp
  simp only [ho, resolve, invoke, builtin, Sem.run_bind, Sem.run_pure, Result.andThen_ok, List.map_toArray, List.map_cons, List.map_nil, hs, hxv, hr]
  exact h v' w' h2
theorem step_append_row {P : Program} {e t : TypeId} (R : RowT P enc k e t) {ops : Array Oper} {o : Oper} {a : Act} {w : World} {K : Act → World → Prop} {Q : Exit → Act → World → Prop} {E : Prop} (hgd : o.guard = none) (s x : Operand) (ho : o.op = .call { callee := .builtin .append, args := #[s, x], argTypes := #[t, t] })
    (base : Nat) (v xv : Value) (X Y : List α) (hs : a.eval s = v) (hxv : a.eval x = xv) (hown : w.ownsRow base e k v X.length (flatE enc X)) (hx : RowIn enc w xv Y) (hl : X.length + Y.length ≤ 1000000) (hb : base ≤ w.heap.size)
    (h : ∀ v' w', AppT enc k e w base v X Y v' w' → K (a.put o.dst v') w') :
    if Region.wanted o (yielded ops a.tmps) = true then Oper.wp P o a w K Q else E := by
  have hw : Region.wanted o (yielded ops a.tmps) = true := by simp [Region.wanted, hgd]
  rw [if_pos hw]
  exact wp_append_row R s x ho base v xv X Y hs hxv hown hx hl hb h
theorem wpList_append_row {P : Program} {e t : TypeId} (R : RowT P enc k e t) {ops : Array Oper} {rest : List Oper} {o : Oper} {a : Act} {w : World} {Q : Exit → Act → World → Prop} (hgd : o.guard = none) (s x : Operand) (ho : o.op = .call { callee := .builtin .append, args := #[s, x], argTypes := #[t, t] })
    (base : Nat) (v xv : Value) (X Y : List α) (hs : a.eval s = v) (hxv : a.eval x = xv) (hown : w.ownsRow base e k v X.length (flatE enc X)) (hx : RowIn enc w xv Y) (hl : X.length + Y.length ≤ 1000000) (hb : base ≤ w.heap.size)
    (h : ∀ v' w', AppT enc k e w base v X Y v' w' → wpList P ops Q rest (a.put o.dst v') w') : wpList P ops Q (o :: rest) a w :=
  wpList_plain hgd fun _ hK => wp_append_row R s x ho base v xv X Y hs hxv hown hx hl hb fun v' w' h2 => hK _ _ (h v' w' h2)
/-- An append that has room, in place. -/
theorem step_append_room {P : Program} {e t : TypeId} (R : RowT P enc k e t) {ops : Array Oper} {o : Oper} {a : Act} {w : World} {K : Act → World → Prop} {Q : Exit → Act → World → Prop} {E : Prop} (hgd : o.guard = none) (s x : Operand) (ho : o.op = .call { callee := .builtin .append, args := #[s, x], argTypes := #[t, t] })
    (g n cap : Nat) (ad : Addr) (c : Nat) (Y : List α) (hs : a.eval s = .slice (some ⟨g, 0, none⟩) n cap) (hxv : a.eval x = .slice (some ad) Y.length c) (hx : RowIn enc w (.slice (some ad) Y.length c) Y) (hroom : n + Y.length ≤ cap) (ht : w.there g (n * k) (Y.length * k))
    (h : K (a.put o.dst (.slice (some ⟨g, 0, none⟩) (n + Y.length) cap)) (w.setCells g (n * k) (flatE enc Y))) :
    if Region.wanted o (yielded ops a.tmps) = true then Oper.wp P o a w K Q else E := by
  have hw : Region.wanted o (yielded ops a.tmps) = true := by simp [Region.wanted, hgd]
  rw [if_pos hw]
  obtain ⟨i0, z, hi, hz0, hz1, hz2, hz3⟩ := R.info
  obtain ⟨p', c', hv', _, _, hr⟩ := hx
  injection hv' with e1 _ e3
  subst e1; subst e3
  have hnews : ∀ (j : Nat) (u : Value), (flatE enc Y)[j]? = some u → w.cell? (ad.add j) = some u := fun j u hj => by
    have hY : 0 < Y.length := by
      rcases Nat.eq_zero_or_pos Y.length with h0 | h0
      · rw [List.eq_nil_of_length_eq_zero h0] at hj; simp [flatE] at hj
      · exact h0
    obtain ⟨b, o, hp, _, hx⟩ := hr hY
    injection hp with hp
    subst hp
    rw [add_plain]; exact hx j u hj
  have hr := run_append_room_cells (P := P) (w := w) t o.type e i0 R.und hi g 0 n cap ad Y.length c (flatE enc Y) (by rw [flatE_len R.len, hz1]) hnews (flatE_one R.one _) hroom
    (fun j hj => by rw [hz1, Nat.zero_add]; exact (ht j (by rw [flatE_len R.len] at hj; exact hj)).1) (fun j hj => by rw [hz1, Nat.zero_add]; exact (ht j (by rw [flatE_len R.len] at hj; exact hj)).2)
  rw [hz1, Nat.zero_add] at hr
  unfold Oper.wp execOp
  simp only [ho, resolve, invoke, builtin, Sem.run_bind, Sem.run_pure, Result.andThen_ok, List.map_toArray, List.map_cons, List.map_nil, hs, hxv, hr]
  exact h
end
end Go.Proofs.YteopjiedjnaeiaaGreat
namespace Go.Proofs.YteopjiedjnaeiaaGreat
open Go Go.Proofs Go.RowKit Go.Sort Go.Lib

theorem IsSet.nodup {M L : List Req} (h : IsSet M L) : M.Nodup := h.1.imp fun {a b} hlt e => by subst e; exact cmpR_irr _ hlt
theorem IsSet.eq {M M' L L' : List Req} (h : IsSet M L) (h' : IsSet M' L') (e : ∀ r, r ∈ L ↔ r ∈ L') : M = M' := (h.congr e).same h'
theorem IsSet.filter {M L : List Req} (h : IsSet M L) (p : Req → Bool) : IsSet (M.filter p) (L.filter p) := ⟨h.1.filter p, fun r => by simp [List.mem_filter, h.2 r]⟩
theorem mem_missing {A B : List Req} {r : Req} : r ∈ (A.filter fun r => !B.any (eqReq r)) ↔ r ∈ A ∧ r ∉ B := by
  simp only [List.mem_filter, Bool.not_eq_true', List.any_eq_false, eqReq_iff]
  constructor
  · rintro ⟨h, h'⟩; exact ⟨h, fun hb => h' r hb rfl⟩
  · rintro ⟨h, h'⟩; exact ⟨h, fun x hx e => h' (by rw [e]; exact hx)⟩
section
variable {A B M W J T N : List Req}
theorem missing_join (hM : IsSet M (A.filter fun r => !B.any (eqReq r))) (hW : IsSet W (A ++ B)) (hJ : IsSet J (B ++ M)) : J = W := by
  refine hJ.eq hW fun r => ?_
  have h1 := hM.2 r
  rw [mem_missing] at h1
  rw [List.mem_append, List.mem_append, h1]
  by_cases h : r ∈ B <;> simp [h]
theorem missing_not (hM : IsSet M (A.filter fun r => !B.any (eqReq r))) {r : Req} (hr : r ∈ M) : r ∉ B := (mem_missing.1 ((hM.2 r).1 hr)).2
theorem missing_none (hW : ∀ r ∈ A, r ∈ W) (hN : IsSet N (A.filter fun r => !W.any (eqReq r))) : N = [] := by
  rcases N with _ | ⟨x, t⟩
  · rfl
  · have h := mem_missing.1 ((hN.2 x).1 (by simp))
    exact absurd (hW x h.1) h.2
theorem missing_len (hM : IsSet M (A.filter fun r => !B.any (eqReq r))) (hW : IsSet W (A ++ B)) (hT : IsSet T B) : W.length = T.length + M.length := by
  rw [← List.length_append]
  refine List.Perm.length_eq ((List.perm_ext_iff_of_nodup hW.nodup ?_).2 fun r => ?_)
  · rw [List.nodup_append]
    exact ⟨hT.nodup, hM.nodup, fun a ha b hb e => by subst e; exact missing_not hM hb ((hT.2 a).1 ha)⟩
  · have h1 := hM.2 r
    rw [mem_missing] at h1
    rw [hW.2, List.mem_append, List.mem_append, hT.2, h1]
    by_cases h : r ∈ B <;> simp [h]
end

/-- A request's number. -/
def numR (r : Req) : Int × Int := (r.server, r.seq)
theorem goneR_iff (K : List (Int × Int)) (r : Req) : goneR K r = true ↔ numR r ∈ K ∨ chkR r ≠ 0 := by simp [goneR, numR]
theorem goneR_congr {K K' : List (Int × Int)} (h : ∀ q, q ∈ K ↔ q ∈ K') (r : Req) : goneR K r = goneR K' r := by
  rw [Bool.eq_iff_iff, goneR_iff, goneR_iff, h]
theorem nextK_congr {K K' : List (Int × Int)} (h : ∀ q, q ∈ K ↔ q ∈ K') (r : Req) (q : Int × Int) : q ∈ nextK K r ↔ q ∈ nextK K' r := by
  unfold nextK; rw [goneR_congr h r]; split <;> simp [h]
theorem keepR_congr : ∀ (L : List Req) (K K' : List (Int × Int)), (∀ q, q ∈ K ↔ q ∈ K') → keepR K L = keepR K' L
  | [], _, _, _ => rfl
  | r :: L, K, K', h => by unfold keepR; rw [goneR_congr h r, keepR_congr L _ _ (nextK_congr h r)]
theorem keepR_mem : ∀ (L : List Req) (K : List (Int × Int)) (r : Req), r ∈ keepR K L → r ∈ L ∧ numR r ∉ K ∧ chkR r = 0
  | [], _, _, h => by cases h
  | x :: L, K, r, h => by
    unfold keepR at h
    rcases List.mem_append.1 h with h | h
    · by_cases hg : goneR K x = true
      · rw [if_pos hg] at h; cases h
      · rw [if_neg hg] at h
        obtain rfl : r = x := by simpa using h
        rw [goneR_iff] at hg
        exact ⟨by simp, fun h => hg (.inl h), Decidable.byContradiction fun h => hg (.inr h)⟩
    · obtain ⟨h1, h2, h3⟩ := keepR_mem L _ r h
      refine ⟨by simp [h1], fun hk => h2 ?_, h3⟩
      unfold nextK; split
      · exact hk
      · simp [hk]
theorem keepR_nums : ∀ (L : List Req) (K : List (Int × Int)), (keepR K L).Pairwise fun a b => numR a ≠ numR b
  | [], _ => List.Pairwise.nil
  | x :: L, K => by
    unfold keepR
    by_cases hg : goneR K x = true
    · rw [if_pos hg]; exact keepR_nums L _
    · rw [if_neg hg]
      refine List.pairwise_cons.2 ⟨fun y hy e => (keepR_mem L _ y hy).2.1 ?_, keepR_nums L _⟩
      rw [nextK, if_neg hg, ← e]; simp [numR]
/-- A right one whose number is free has one of its number among what stays. -/
theorem keepR_has : ∀ (L : List Req) (K : List (Int × Int)) (r : Req), r ∈ L → chkR r = 0 → numR r ∉ K → ∃ x ∈ keepR K L, numR x = numR r
  | [], _, _, h, _, _ => by cases h
  | x :: L, K, r, h, hc, hk => by
    unfold keepR
    by_cases hx : goneR K x = false ∧ numR x = numR r
    · exact ⟨x, by simp [hx.1], hx.2⟩
    · have hne : r ∈ L := by
        rcases List.mem_cons.1 h with rfl | h
        · refine absurd ⟨?_, rfl⟩ hx
          rw [Bool.eq_false_iff, Ne, goneR_iff]; rintro (h | h)
          · exact hk h
          · exact h hc
        · exact h
      obtain ⟨y, hy, e⟩ := keepR_has L (nextK K x) r hne hc (by
        unfold nextK
        by_cases hg : goneR K x = true
        · rw [if_pos hg]; exact hk
        · rw [if_neg hg]
          intro hm
          rcases List.mem_cons.1 hm with e | hm
          · exact hx ⟨by simpa using hg, e.symm⟩
          · exact hk hm)
      exact ⟨y, by simp [hy], e⟩
/-- Numbers that are taken from the start. -/
theorem keepR_skip (q : Int × Int) : ∀ (L : List Req) (K : List (Int × Int)), q ∈ K → keepR K L = keepR K (L.filter fun r => decide (numR r ≠ q))
  | [], _, _ => rfl
  | x :: L, K, hq => by
    by_cases hx : numR x = q
    · rw [List.filter_cons_of_neg (by simp [hx])]
      have hg : goneR K x = true := (goneR_iff K x).2 (.inl (hx ▸ hq))
      show (if goneR K x = true then [] else [x]) ++ keepR (nextK K x) L = _
      rw [if_pos hg, show nextK K x = K by unfold nextK; rw [if_pos hg], List.nil_append]
      exact keepR_skip q L K hq
    · rw [List.filter_cons_of_pos (by simp [hx])]
      unfold keepR
      rw [keepR_skip q L (nextK K x) (by unfold nextK; split <;> simp [hq])]
theorem keepR_without (q : Int × Int) : ∀ (L : List Req) (K K' : List (Int × Int)), (∀ p, p ∈ K' ↔ p = q ∨ p ∈ K) → keepR K' L = (keepR K L).filter fun r => decide (numR r ≠ q)
  | [], _, _, _ => rfl
  | x :: L, K, K', h => by
    unfold keepR
    by_cases hx : numR x = q
    · have hg' : goneR K' x = true := (goneR_iff K' x).2 (.inl ((h _).2 (.inl hx)))
      have e1 : nextK K' x = K' := by unfold nextK; rw [if_pos hg']
      rw [e1, if_pos hg', List.nil_append, List.filter_append, keepR_without q L (nextK K x) K' (fun p => by
        rw [h p]; unfold nextK; split
        · rfl
        · simp only [List.mem_cons]
          constructor
          · rintro (h | h) <;> simp [h]
          · rintro (h | h | h)
            · exact .inl h
            · exact .inl (h.trans hx)
            · exact .inr h)]
      split <;> simp [hx]
    · have hgg : goneR K' x = goneR K x := by
        rw [Bool.eq_iff_iff, goneR_iff, goneR_iff, h]; simp [hx]
      rw [hgg, List.filter_append, keepR_without q L (nextK K x) (nextK K' x) (fun p => by
        unfold nextK; rw [hgg]; split
        · exact h p
        · simp only [List.mem_cons, h p]
          constructor
          · rintro (h | h | h) <;> simp [h]
          · rintro (h | h | h) <;> simp [h])]
      split <;> simp [hx]
theorem canK_mem_from : ∀ (M : List Req) (K : List (Int × Int)) (q : Int × Int), q ∈ M.foldl addK K ↔ q ∈ K ∨ ∃ x ∈ M, x.cancel = true ∧ numR x = q
  | [], _, _ => by simp
  | x :: M, K, q => by
    rw [List.foldl_cons, canK_mem_from M (addK K x) q]
    have e : q ∈ addK K x ↔ q ∈ K ∨ (x.cancel = true ∧ numR x = q) := by
      unfold addK
      split
      · rename_i hc
        simp only [List.mem_cons, hc, true_and, numR]
        constructor
        · rintro (h | h)
          · exact .inr h.symm
          · exact .inl h
        · rintro (h | h)
          · exact .inr h
          · exact .inl h.symm
      · rename_i hc; simp [hc]
    rw [e]
    simp only [List.mem_cons, exists_eq_or_imp, or_assoc]
theorem canK_mem (M : List Req) (q : Int × Int) : q ∈ canK M ↔ ∃ x ∈ M, x.cancel = true ∧ numR x = q := by
  unfold canK; rw [canK_mem_from]; simp
/-- A cancellation of a number. -/
def goneOf (r : Req) : Req := ⟨r.server, r.seq, true, 0, 0, ⟨#[]⟩, ⟨#[]⟩, 0, 0⟩
/-- With a cancellation: what was active, without this number. -/
theorem actR_gone {M M' L : List Req} (r : Req) (hM : IsSet M L) (hM' : IsSet M' (goneOf r :: L)) : actR M' = (actR M).filter fun x => decide (numR x ≠ numR r) := by
  unfold actR
  have hk : ∀ p, p ∈ canK M' ↔ p = numR r ∨ p ∈ canK M := fun p => by
    rw [canK_mem, canK_mem]
    constructor
    · rintro ⟨x, hx, hc, rfl⟩
      rcases List.mem_cons.1 ((hM'.2 x).1 hx) with rfl | hl
      · exact .inl rfl
      · exact .inr ⟨x, (hM.2 x).2 hl, hc, rfl⟩
    · rintro (rfl | ⟨x, hx, hc, rfl⟩)
      · exact ⟨goneOf r, (hM'.2 _).2 (by simp), rfl, rfl⟩
      · exact ⟨x, (hM'.2 x).2 (by simp [(hM.2 x).1 hx]), hc, rfl⟩
  have hq : numR r ∈ canK M' := (hk _).2 (.inl rfl)
  rw [keepR_skip (numR r) M' _ hq]
  have e : (M'.filter fun x => decide (numR x ≠ numR r)) = M.filter fun x => decide (numR x ≠ numR r) := by
    refine (hM'.filter _).eq (hM.filter _) fun x => ?_
    simp only [List.mem_filter, List.mem_cons, decide_eq_true_eq]
    constructor
    · rintro ⟨rfl | h, h'⟩
      · exact absurd rfl h'
      · exact ⟨h, h'⟩
    · rintro ⟨h, h'⟩; exact ⟨.inr h, h'⟩
  rw [e, ← keepR_skip (numR r) M _ hq]
  exact keepR_without (numR r) M _ _ hk
theorem filter_one {q : Int × Int} : ∀ (l : List Req), (l.Pairwise fun a b => numR a ≠ numR b) → ∀ r ∈ l, numR r = q → (l.filter fun x => decide (numR x ≠ q)).length = l.length - 1
  | [], _, _, h, _ => by cases h
  | x :: l, hp, r, hr, hq => by
    obtain ⟨p1, p2⟩ := List.pairwise_cons.1 hp
    by_cases hx : numR x = q
    · rw [List.filter_cons_of_neg (by simp [hx]), List.filter_eq_self.2 fun y hy => by
        have := p1 y hy
        simp only [decide_eq_true_eq]
        exact fun e => this (hx.trans e.symm)]
      simp
    · rcases List.mem_cons.1 hr with rfl | hr
      · exact absurd hq hx
      · have hl : 0 < l.length := List.length_pos_of_mem hr
        rw [List.filter_cons_of_pos (by simp [hx]), List.length_cons, filter_one l p2 r hr hq, List.length_cons]
        omega
end Go.Proofs.YteopjiedjnaeiaaGreat
