/- Rows of anything: a slice whose elements lie one behind the other, k cells each. -/
import Derived.Test.YtjcogpalmgcpbaaRqPutL
import Derived.Deep.MidRow
namespace Go.Proofs.Ytjcogpalmgcpbaa
open Go Go.Proofs Go.RowKit Go.Sort Go.Lib

section
variable {α : Type}
def flatE (enc : α → List Value) (L : List α) : List Value := L.flatMap enc
theorem flatE_app (enc : α → List Value) (L M : List α) : flatE enc (L ++ M) = flatE enc L ++ flatE enc M := by simp [flatE]
theorem flatE_len {enc : α → List Value} {k : Nat} (hk : ∀ x, (enc x).length = k) : ∀ L : List α, (flatE enc L).length = L.length * k
  | [] => by simp [flatE]
  | x :: L => by
    have e : flatE enc (x :: L) = enc x ++ flatE enc L := rfl
    rw [e, List.length_append, hk, flatE_len hk L, List.length_cons, Nat.add_mul]; omega
theorem flatE_one {enc : α → List Value} (h1 : ∀ x, ∀ u ∈ enc x, u.oneCell' = true) (L : List α) : ∀ u ∈ flatE enc L, u.oneCell' = true := by
  intro u hu
  unfold flatE at hu
  obtain ⟨x, _, hx⟩ := List.mem_flatMap.1 hu
  exact h1 x u hx
theorem flatE_at {enc : α → List Value} {k : Nat} (hk : ∀ x, (enc x).length = k) {L : List α} {i j : Nat} {x : α} {u : Value} (hi : L[i]? = some x) (hj : (enc x)[j]? = some u) : (flatE enc L)[i * k + j]? = some u := by
  obtain ⟨hi1, rfl⟩ := List.getElem?_eq_some_iff.1 hi
  have hjk : j < k := by have := (List.getElem?_eq_some_iff.1 hj).1; rwa [hk] at this
  have e : L = L.take i ++ L[i] :: L.drop (i + 1) := by rw [List.getElem_cons_drop, List.take_append_drop]
  have ht : (L.take i).length = i := by simp; omega
  have hq : (flatE enc L)[i * k + j]? = (flatE enc (L.take i ++ L[i] :: L.drop (i + 1)))[i * k + j]? := by rw [← e]
  rw [hq, flatE_app, show flatE enc (L[i] :: L.drop (i + 1)) = enc L[i] ++ flatE enc (L.drop (i + 1)) from rfl,
    List.getElem?_append_right (by rw [flatE_len hk, ht]; omega), flatE_len hk, ht, show i * k + j - i * k = j by omega,
    List.getElem?_append_left (List.getElem?_eq_some_iff.1 hj).1]
  exact hj
/-- The elements lie from block b, offset o on. -/
def CellsAt (enc : α → List Value) (w : World) (b o : Nat) (L : List α) : Prop := ∀ (j : Nat) (u : Value), (flatE enc L)[j]? = some u → w.cell? ⟨b, o + j, none⟩ = some u
/-- A slice of them, as a world holds it. -/
def RowIn (enc : α → List Value) (w : World) (v : Value) (L : List α) : Prop := ∃ p c, v = .slice p L.length c ∧ L.length ≤ c ∧ (p = none → c = 0) ∧ (0 < L.length → ∃ b o, p = some ⟨b, o, none⟩ ∧ b < w.heap.size ∧ CellsAt enc w b o L)
variable {enc : α → List Value} {k : Nat} {w w' : World} {v : Value} {L : List α}
theorem RowIn.nil (enc : α → List Value) (w : World) : RowIn enc w (.slice none 0 0) [] := ⟨none, 0, rfl, Nat.zero_le _, fun _ => rfl, fun h => by cases h⟩
theorem RowIn.below (h : RowIn enc w v L) (hb : RowKit.Below w.heap.size w w') : RowIn enc w' v L := by
  obtain ⟨p, c, hv, hc, hz, hr⟩ := h
  refine ⟨p, c, hv, hc, hz, fun hl => ?_⟩
  obtain ⟨b, o, hp, hbs, hx⟩ := hr hl
  exact ⟨b, o, hp, Nat.lt_of_lt_of_le hbs hb.size, fun j u hj => by rw [hb.cell (p := ⟨b, o + j, none⟩) hbs]; exact hx j u hj⟩
theorem RowIn.form (h : RowIn enc w v L) : ∃ p c, v = .slice p L.length c ∧ L.length ≤ c := by
  obtain ⟨p, c, hv, hc, _, _⟩ := h
  exact ⟨p, c, hv, hc⟩
theorem RowIn.at_ (h : RowIn enc w v L) (hk : ∀ x, (enc x).length = k) (hl : 0 < L.length) : ∃ b o c, v = .slice (some ⟨b, o, none⟩) L.length c ∧ L.length ≤ c ∧ b < w.heap.size ∧ ∀ i x, L[i]? = some x → w.rangeAt b (o + i * k) (enc x) := by
  obtain ⟨p, c, hv, hc, _, hr⟩ := h
  obtain ⟨b, o, rfl, hbs, hx⟩ := hr hl
  refine ⟨b, o, c, hv, hc, hbs, fun i x hi j u hj => ?_⟩
  rw [Nat.add_assoc]
  exact hx _ _ (flatE_at hk hi hj)
theorem RowIn.take (h : RowIn enc w v L) {p : Option Addr} {n c m : Nat} (hv : v = .slice p n c) (hm : m ≤ L.length) : RowIn enc w (.slice p m c) (L.take m) := by
  obtain ⟨p', c', hv', hc, hz, hr⟩ := h
  rw [hv'] at hv
  injection hv with e1 e2 e3
  subst e1; subst e2; subst e3
  have hlen : (L.take m).length = m := by simp; omega
  refine ⟨p', c', by rw [hlen], by omega, hz, fun hl => ?_⟩
  obtain ⟨b, o, hp, hbs, hx⟩ := hr (by omega)
  refine ⟨b, o, hp, hbs, fun j u hj => hx j u ?_⟩
  have e : flatE enc L = flatE enc (L.take m) ++ flatE enc (L.drop m) := by rw [← flatE_app, List.take_append_drop]
  rw [e, List.getElem?_append_left (List.getElem?_eq_some_iff.1 hj).1]
  exact hj
theorem RowIn.drop {b o c : Nat} (h : RowIn enc w (.slice (some ⟨b, o, none⟩) L.length c) L) (hk : ∀ x, (enc x).length = k) {m : Nat} (hm : m ≤ L.length) : RowIn enc w (.slice (some ⟨b, o + m * k, none⟩) (L.length - m) (c - m)) (L.drop m) := by
  obtain ⟨p', c', hv', hc, _, hr⟩ := h
  injection hv' with e1 e2 e3
  subst e1; subst e3
  have hlen : (L.drop m).length = L.length - m := by simp
  refine ⟨_, _, by rw [hlen], by omega, fun hn => (by cases hn), fun hl => ?_⟩
  obtain ⟨b', o', hp, hbs, hx⟩ := hr (by omega)
  injection hp with hp
  injection hp with e1 e2
  subst e1; subst e2
  refine ⟨_, _, rfl, hbs, fun j u hj => ?_⟩
  rw [Nat.add_assoc]
  refine hx _ _ ?_
  have e : flatE enc L = flatE enc (L.take m) ++ flatE enc (L.drop m) := by rw [← flatE_app, List.take_append_drop]
  have ht : (flatE enc (L.take m)).length = m * k := by rw [flatE_len hk]; congr 1; simp; omega
  rw [e, List.getElem?_append_right (by rw [ht]; omega), ht, show m * k + j - m * k = j by omega]
  exact hj
theorem rowIn_own {base n : Nat} {e : TypeId} (hk : ∀ x, (enc x).length = k) (hk0 : 0 < k) (h : w.ownsRow base e k v n (flatE enc L)) : RowIn enc w v L := by
  have hn : n = L.length := by
    have := h.1
    rw [flatE_len hk] at this
    exact (Nat.eq_of_mul_eq_mul_right hk0 this).symm
  subst hn
  rcases h.2 with ⟨rfl, h0⟩ | ⟨g, cap, cur, rfl, _, hg, h2, _, _, h5⟩
  · have e := List.eq_nil_of_length_eq_zero h0
    subst e
    exact RowIn.nil _ _
  · refine ⟨_, cap, rfl, h2, fun hn => (by cases hn), fun _ => ⟨g, 0, rfl, (Array.getElem?_eq_some_iff.1 hg).1, fun j u hj => ?_⟩⟩
    rw [Nat.zero_add, Lib.cell_of_heap hg]
    rw [← h5, List.getElem?_take] at hj
    split at hj
    · simpa using hj
    · cases hj
theorem rowIn_lit {e : TypeId} (w : World) (L : List α) (cs : Array Value) (b : Nat) (hb : w.heap.size = b) (hcs : cs.toList = flatE enc L) (n : Nat) (hn : L.length = n) : RowIn enc (w.alloc (.cells cs e)) (.slice (some ⟨b, 0, none⟩) n n) L := by
  subst hb; subst hn
  refine ⟨_, _, rfl, Nat.le_refl _, fun hn => (by cases hn), fun _ => ⟨_, _, rfl, by simp, fun j u hj => ?_⟩⟩
  rw [Nat.zero_add, Lib.cell_of_heap (heap_alloc_new w _)]
  rw [← hcs] at hj
  simpa using hj

/-- What the type table says of an element and of its row. -/
structure RowT (P : Program) (enc : α → List Value) (k : Nat) (e t : TypeId) : Prop where
  len : ∀ x, (enc x).length = k
  one : ∀ x, ∀ u ∈ enc x, u.oneCell' = true
  pos : 0 < k
  und : P.underlying t = some (.slice e)
  info : ∃ i0 z, P.info? e = some i0 ∧ i0.zero = some z ∧ i0.size = k ∧ z.cells.size = k ∧ i0.bytes ≤ 1000
/-- What stands behind an append. -/
structure AppT (enc : α → List Value) (k : Nat) (e : TypeId) (w : World) (base : Nat) (v : Value) (X Y : List α) (v' : Value) (w' : World) : Prop where
  own : w'.ownsRow base e k v' (X ++ Y).length (flatE enc (X ++ Y))
  grown : w.grownBy w' v.ownBlock
  old : RowIn enc w' v X
  block : v'.ownBlock = v.ownBlock ∨ ∀ q, v'.ownBlock = some q → w.heap.size ≤ q
theorem run_append_row {P : Program} {e t : TypeId} (R : RowT P enc k e t) (w : World) (base : Nat) (ty : TypeId) (v xv : Value) (X Y : List α) (hown : w.ownsRow base e k v X.length (flatE enc X)) (hx : RowIn enc w xv Y) (hl : X.length + Y.length ≤ 1000000) (hb : base ≤ w.heap.size) :
    ∃ v' w', (Builtin.append_ #[t, t] ty #[v, xv]).run P w = .ok v' w' ∧ AppT enc k e w base v X Y v' w' := by
  obtain ⟨i0, z, hi, hz0, hz1, hz2, hz3⟩ := R.info
  have hk := flatE_len R.len
  have hby : (X.length + Y.length) * i0.bytes ≤ 140737488355328 := Nat.le_trans (Nat.mul_le_mul hl hz3) (by decide)
  obtain ⟨p, c, rfl, hc, hnil, hr⟩ := hx
  rcases p with _ | ad
  · obtain rfl := hnil rfl
    obtain rfl : Y = [] := List.eq_nil_of_length_eq_zero (by omega)
    refine ⟨v, w, run_append_owned_none w base t ty e i0 k R.und hi v X.length (flatE enc X) hown, by simpa using hown, ⟨rfl, rfl, rfl, Nat.le_refl _, fun _ _ _ => rfl⟩, rowIn_own R.len R.pos hown, .inl rfl⟩
  · have hnews : ∀ (j : Nat) (u : Value), (flatE enc Y)[j]? = some u → w.cell? (ad.add j) = some u := fun j u hj => by
      have hY : 0 < Y.length := by
        rcases Nat.eq_zero_or_pos Y.length with h0 | h0
        · rw [List.eq_nil_of_length_eq_zero h0] at hj; simp [flatE] at hj
        · exact h0
      obtain ⟨b, o, hp, _, hx⟩ := hr hY
      injection hp with hp
      subst hp
      rw [add_plain]; exact hx j u hj
    obtain ⟨v', w', hr, h5, h6, h7⟩ := run_append_own (P := P) w base t ty e i0 z k i0.bytes R.und hi hz0 hz1 rfl hz2 R.pos v X.length (flatE enc X) hown ad Y.length c (flatE enc Y) (hk _)
      hnews (flatE_one R.one _) (by unfold maxLen; omega) hby hb
    suffices h : RowIn enc w' v X ∧ (v'.ownBlock = v.ownBlock ∨ ∀ q, v'.ownBlock = some q → w.heap.size ≤ q) from ⟨v', w', hr, by rw [flatE_app, List.length_append]; exact h5, h6, h.1, h.2⟩
    rcases id hown.2 with ⟨rfl, h0⟩ | ⟨g, cap, cur, rfl, hbg, hg, hnc, hcm, hcs, htake⟩
    · have hX : X = [] := List.eq_nil_of_length_eq_zero h0
      subst hX
      refine ⟨RowIn.nil _ _, ?_⟩
      by_cases hm : Y.length = 0
      · left
        rw [h7.2 ⟨rfl, hm⟩]
      · right
        have hr2 := run_append_nil (P := P) w t ty e i0 z R.und hi hz0 ad Y.length c (flatE enc Y) (by rw [hk, hz1]) hnews (by omega) (by omega) (by have : Y.length * i0.bytes ≤ (([] : List α).length + Y.length) * i0.bytes := Nat.mul_le_mul_right _ (by simp); omega)
        rw [hr] at hr2
        injection hr2 with e1 e2
        subst e1
        exact fun q hq => by obtain rfl := Option.some.inj hq; exact Nat.le_refl _
    · by_cases hroom : X.length + Y.length ≤ cap
      · have hfit : X.length * i0.size + (flatE enc Y).length ≤ cur.size := by rw [hk, hcs, hz1, ← Nat.add_mul]; exact Nat.mul_le_mul_right _ hroom
        have hr2 := run_append_room (P := P) w t ty e i0 R.und hi g X.length cap cur hg ad Y.length c (flatE enc Y) (by rw [hk, hz1]) hnews (flatE_one R.one _) hroom hfit
        rw [hr] at hr2
        injection hr2 with e1 e2
        subst e1
        refine ⟨⟨_, cap, rfl, hnc, fun hn => (by cases hn), fun _ => ⟨g, 0, rfl, (h5.lt g rfl).2, fun j u hj => ?_⟩⟩, .inl rfl⟩
        have := h5.cells (g := g) rfl j u (by rw [List.getElem?_append_left (List.getElem?_eq_some_iff.1 hj).1]; exact hj)
        rw [add_plain] at this; exact this
      · have holds : ∀ j u, (flatE enc X)[j]? = some u → w.cell? ((⟨g, 0, none⟩ : Addr).add j) = some u := hown.cells (g := g) rfl
        have hr2 := run_append_grow (P := P) w t ty e i0 z R.und hi hz0 ⟨g, 0, none⟩ X.length cap (flatE enc X) (by rw [hk, hz1]) holds ad Y.length c (flatE enc Y) (by rw [hk, hz1]) hnews (by omega) (by omega) (growslice_fits (by omega) (by omega))
        rw [hr] at hr2
        injection hr2 with e1 e2
        subst e1 e2
        exact ⟨(rowIn_own R.len R.pos hown).below ((Below.refl _ w).drew.alloc (Nat.le_refl _) _), .inr fun q hq => by obtain rfl := Option.some.inj hq; exact Nat.le_refl _⟩
theorem wp_append_row {P : Program} {e t : TypeId} (R : RowT P enc k e t) {o : Oper} {a : Act} {w : World} {K : Act → World → Prop} {Q : Exit → Act → World → Prop} (s x : Operand) (ho : o.op = .call { callee := .builtin .append, args := #[s, x], argTypes := #[t, t] })
    (base : Nat) (v xv : Value) (X Y : List α) (hs : a.eval s = v) (hxv : a.eval x = xv) (hown : w.ownsRow base e k v X.length (flatE enc X)) (hx : RowIn enc w xv Y) (hl : X.length + Y.length ≤ 1000000) (hb : base ≤ w.heap.size)
    (h : ∀ v' w', AppT enc k e w base v X Y v' w' → K (a.put o.dst v') w') : o.wp P a w K Q := by
  obtain ⟨v', w', hr, h2⟩ := run_append_row R w base o.type v xv X Y hown hx hl hb
  unfold Oper.wp execOp
  simp only [ho, resolve, invoke, builtin, Sem.run_bind, Sem.run_pure, Result.andThen_ok, List.map_toArray, List.map_cons, List.map_nil, hs, hxv, hr]
  exact h v' w' h2
theorem step_append_row {P : Program} {e t : TypeId} (R : RowT P enc k e t) {ops : Array Oper} {o : Oper} {a : Act} {w : World} {K : Act → World → Prop} {Q : Exit → Act → World → Prop} {E : Prop} (hgd : o.guard = none) (s x : Operand) (ho : o.op = .call { callee := .builtin .append, args := #[s, x], argTypes := #[t, t] })
    (base : Nat) (v xv : Value) (X Y : List α) (hs : a.eval s = v) (hxv : a.eval x = xv) (hown : w.ownsRow base e k v X.length (flatE enc X)) (hx : RowIn enc w xv Y) (hl : X.length + Y.length ≤ 1000000) (hb : base ≤ w.heap.size)
    (h : ∀ v' w', AppT enc k e w base v X Y v' w' → K (a.put o.dst v') w') :
    if Region.wanted o (yielded ops a.tmps) = true then Oper.wp P o a w K Q else E := by
  have hw : Region.wanted o (yielded ops a.tmps) = true := by simp [Region.wanted, hgd]
  rw [if_pos hw]
  exact wp_append_row R s x ho base v xv X Y hs hxv hown hx hl hb h
theorem wpList_append_row {P : Program} {e t : TypeId} (R : RowT P enc k e t) {ops : Array Oper} {rest : List Oper} {o : Oper} {a : Act} {w : World} {Q : Exit → Act → World → Prop} (hgd : o.guard = none) (s x : Operand) (ho : o.op = .call { callee := .builtin .append, args := #[s, x], argTypes := #[t, t] })
    (base : Nat) (v xv : Value) (X Y : List α) (hs : a.eval s = v) (hxv : a.eval x = xv) (hown : w.ownsRow base e k v X.length (flatE enc X)) (hx : RowIn enc w xv Y) (hl : X.length + Y.length ≤ 1000000) (hb : base ≤ w.heap.size)
    (h : ∀ v' w', AppT enc k e w base v X Y v' w' → wpList P ops Q rest (a.put o.dst v') w') : wpList P ops Q (o :: rest) a w :=
  wpList_plain hgd fun _ hK => wp_append_row R s x ho base v xv X Y hs hxv hown hx hl hb fun v' w' h2 => hK _ _ (h v' w' h2)
/-- An append that has room, in place. -/
theorem step_append_room {P : Program} {e t : TypeId} (R : RowT P enc k e t) {ops : Array Oper} {o : Oper} {a : Act} {w : World} {K : Act → World → Prop} {Q : Exit → Act → World → Prop} {E : Prop} (hgd : o.guard = none) (s x : Operand) (ho : o.op = .call { callee := .builtin .append, args := #[s, x], argTypes := #[t, t] })
    (g n cap : Nat) (ad : Addr) (c : Nat) (Y : List α) (hs : a.eval s = .slice (some ⟨g, 0, none⟩) n cap) (hxv : a.eval x = .slice (some ad) Y.length c) (hx : RowIn enc w (.slice (some ad) Y.length c) Y) (hroom : n + Y.length ≤ cap) (ht : w.there g (n * k) (Y.length * k))
    (h : K (a.put o.dst (.slice (some ⟨g, 0, none⟩) (n + Y.length) cap)) (w.setCells g (n * k) (flatE enc Y))) :
    if Region.wanted o (yielded ops a.tmps) = true then Oper.wp P o a w K Q else E := by
  have hw : Region.wanted o (yielded ops a.tmps) = true := by simp [Region.wanted, hgd]
  rw [if_pos hw]
  obtain ⟨i0, z, hi, hz0, hz1, hz2, hz3⟩ := R.info
  obtain ⟨p', c', hv', _, _, hr⟩ := hx
  injection hv' with e1 _ e3
  subst e1; subst e3
  have hnews : ∀ (j : Nat) (u : Value), (flatE enc Y)[j]? = some u → w.cell? (ad.add j) = some u := fun j u hj => by
    have hY : 0 < Y.length := by
      rcases Nat.eq_zero_or_pos Y.length with h0 | h0
      · rw [List.eq_nil_of_length_eq_zero h0] at hj; simp [flatE] at hj
      · exact h0
    obtain ⟨b, o, hp, _, hx⟩ := hr hY
    injection hp with hp
    subst hp
    rw [add_plain]; exact hx j u hj
  have hr := run_append_room_cells (P := P) (w := w) t o.type e i0 R.und hi g 0 n cap ad Y.length c (flatE enc Y) (by rw [flatE_len R.len, hz1]) hnews (flatE_one R.one _) hroom
    (fun j hj => by rw [hz1, Nat.zero_add]; exact (ht j (by rw [flatE_len R.len] at hj; exact hj)).1) (fun j hj => by rw [hz1, Nat.zero_add]; exact (ht j (by rw [flatE_len R.len] at hj; exact hj)).2)
  rw [hz1, Nat.zero_add] at hr
  unfold Oper.wp execOp
  simp only [ho, resolve, invoke, builtin, Sem.run_bind, Sem.run_pure, Result.andThen_ok, List.map_toArray, List.map_cons, List.map_nil, hs, hxv, hr]
  exact h
end
end Go.Proofs.Ytjcogpalmgcpbaa
