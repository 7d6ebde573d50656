/- The plain arithmetic of ratios: lowest terms, sums, order, rounding. -/
namespace Go.Proofs.YtmbjoenegcnoiaaDoor
/-- A ratio's two numbers. -/
structure Rt where
  n : Int
  d : Int
deriving DecidableEq
def top30 : Int := 1073741824
/-- A fraction as a right ratio, and the number of the error. -/
def ofV (n d : Int) : Rt × Int :=
  if d = 0 then (⟨0, 0⟩, 1)
  else if 1073741824 < n.natAbs / n.natAbs.gcd d.natAbs ∨ 1073741824 < d.natAbs / n.natAbs.gcd d.natAbs then (⟨0, 0⟩, 3)
  else (⟨if (decide (n < 0) != decide (d < 0)) = true then -((n.natAbs / n.natAbs.gcd d.natAbs : Nat) : Int) else ((n.natAbs / n.natAbs.gcd d.natAbs : Nat) : Int), ((d.natAbs / n.natAbs.gcd d.natAbs : Nat) : Int)⟩, 0)
/-- Is it a right ratio? -/
def Right (r : Rt) : Prop := 1 ≤ r.d ∧ r.d ≤ 1073741824 ∧ -1073741824 ≤ r.n ∧ r.n ≤ 1073741824 ∧ r.n.natAbs.gcd r.d.natAbs = 1
instance (r : Rt) : Decidable (Right r) := by unfold Right; infer_instance

theorem gcd_pos {n d : Int} (h : d ≠ 0) : 0 < n.natAbs.gcd d.natAbs := Nat.gcd_pos_of_pos_right _ (by omega)
theorem ofV_right {n d : Int} (h : (ofV n d).2 = 0) : Right (ofV n d).1 := by
  unfold ofV at *
  split at h
  · cases h
  · rename_i hd
    have hg := gcd_pos (n := n) hd
    split at h
    · cases h
    · rename_i h2
      rw [if_neg hd, if_neg h2]
      have hco := Nat.coprime_div_gcd_div_gcd hg
      have hdn := Nat.div_pos (Nat.le_of_dvd (by omega) (Nat.gcd_dvd_right n.natAbs d.natAbs)) hg
      generalize n.natAbs / n.natAbs.gcd d.natAbs = u at *
      generalize d.natAbs / n.natAbs.gcd d.natAbs = v at *
      refine ⟨by show (1 : Int) ≤ (v : Int); omega, by show (v : Int) ≤ _; omega, ?_, ?_, ?_⟩
      · show _ ≤ (ite _ _ _ : Int); split <;> omega
      · show (ite _ _ _ : Int) ≤ _; split <;> omega
      · show Nat.gcd (Int.natAbs (ite _ _ _)) (Int.natAbs (v : Int)) = 1
        have : Int.natAbs (if (decide (n < 0) != decide (d < 0)) = true then -(u : Int) else (u : Int)) = u := by split <;> omega
        rw [this, Int.natAbs_natCast]; exact hco

/-- What stands for the same number as a right ratio is that ratio. -/
theorem ofV_unique {n d : Int} {r : Rt} (hr : Right r) (hd : d ≠ 0) (h : n * r.d = r.n * d) : ofV n d = (r, 0) := by
  obtain ⟨h1, h2, h3, h4, hg⟩ := hr
  have hgp := gcd_pos (n := n) hd
  have ha : n.natAbs * r.d.natAbs = r.n.natAbs * d.natAbs := by rw [← Int.natAbs_mul, ← Int.natAbs_mul, h]
  -- d.natAbs = k * r.d.natAbs
  have hco : r.d.natAbs.Coprime r.n.natAbs := by rw [Nat.Coprime, Nat.gcd_comm]; exact hg
  obtain ⟨k, hk⟩ : r.d.natAbs ∣ d.natAbs := hco.dvd_of_dvd_mul_left ⟨n.natAbs, by rw [← ha, Nat.mul_comm]⟩
  have hdp : 0 < r.d.natAbs := by omega
  have hn : n.natAbs = r.n.natAbs * k := by
    rw [hk, ← Nat.mul_assoc, Nat.mul_comm r.n.natAbs, Nat.mul_assoc, Nat.mul_comm n.natAbs] at ha
    exact Nat.eq_of_mul_eq_mul_left hdp ha
  have hkp : 0 < k := by
    rcases Nat.eq_zero_or_pos k with h | h
    · rw [h] at hk; omega
    · exact h
  have hgk : n.natAbs.gcd d.natAbs = k := by rw [hn, hk, Nat.gcd_mul_right, hg, Nat.one_mul]
  have hu : n.natAbs / n.natAbs.gcd d.natAbs = r.n.natAbs := by rw [hgk, hn, Nat.mul_div_cancel _ hkp]
  have hv : d.natAbs / n.natAbs.gcd d.natAbs = r.d.natAbs := by rw [hgk, hk, Nat.mul_div_cancel _ hkp]
  unfold ofV
  rw [if_neg hd, hu, hv, if_neg (by omega)]
  have hs : (if (decide (n < 0) != decide (d < 0)) = true then -(r.n.natAbs : Int) else (r.n.natAbs : Int)) = r.n := by
    rcases Int.lt_trichotomy r.n 0 with hx | hx | hx
    · have hx2 : ((decide (n < 0)) != decide (d < 0)) = true := by
        rcases Int.lt_or_gt_of_ne hd with hy | hy
        · have : 0 < n * r.d := by rw [h]; exact Int.mul_pos_of_neg_of_neg hx hy
          have : 0 < n := Int.pos_of_mul_pos_left this (by omega)
          simp; omega
        · have : n * r.d < 0 := by rw [h]; exact Int.mul_neg_of_neg_of_pos hx hy
          have : n < 0 := by
            rcases Int.lt_or_le n 0 with h5 | h5
            · exact h5
            · have := Int.mul_nonneg h5 (show 0 ≤ r.d by omega); omega
          simp; omega
      rw [if_pos hx2]; omega
    · rw [hx]; simp
    · have hx2 : ¬ ((decide (n < 0)) != decide (d < 0)) = true := by
        rcases Int.lt_or_gt_of_ne hd with hy | hy
        · have : n * r.d < 0 := by rw [h]; exact Int.mul_neg_of_pos_of_neg hx hy
          have : n < 0 := by
            rcases Int.lt_or_le n 0 with h5 | h5
            · exact h5
            · have := Int.mul_nonneg h5 (show 0 ≤ r.d by omega); omega
          simp; omega
        · have : 0 < n * r.d := by rw [h]; exact Int.mul_pos hx hy
          have : 0 < n := Int.pos_of_mul_pos_left this (by omega)
          simp; omega
      rw [if_neg hx2]; omega
  rw [hs]
  have : ((r.d.natAbs : Nat) : Int) = r.d := by omega
  rw [this]
/-- It stands for n / d. -/
theorem ofV_same {n d : Int} (h : (ofV n d).2 = 0) : (ofV n d).1.n * d = n * (ofV n d).1.d := by
  unfold ofV at *
  split at h
  · cases h
  · rename_i hd
    have hg := gcd_pos (n := n) hd
    split at h
    · cases h
    · rename_i h2
      rw [if_neg hd, if_neg h2]
      obtain ⟨u, hu⟩ := Nat.gcd_dvd_left n.natAbs d.natAbs
      obtain ⟨v, hv⟩ := Nat.gcd_dvd_right n.natAbs d.natAbs
      have hu' : n.natAbs / n.natAbs.gcd d.natAbs = u := by
        rw [show n.natAbs / n.natAbs.gcd d.natAbs = (n.natAbs.gcd d.natAbs * u) / n.natAbs.gcd d.natAbs by rw [← hu], Nat.mul_div_cancel_left _ hg]
      have hv' : d.natAbs / n.natAbs.gcd d.natAbs = v := by
        rw [show d.natAbs / n.natAbs.gcd d.natAbs = (n.natAbs.gcd d.natAbs * v) / n.natAbs.gcd d.natAbs by rw [← hv], Nat.mul_div_cancel_left _ hg]
      rw [hu', hv']
      generalize n.natAbs.gcd d.natAbs = g at *
      have hn : n = (g * u : Nat) ∨ n = -((g * u : Nat) : Int) := by omega
      have hdd : d = (g * v : Nat) ∨ d = -((g * v : Nat) : Int) := by omega
      have hvp : 0 < g * v := by omega
      show (ite _ _ _ : Int) * d = n * (v : Int)
      rcases hn with hn | hn <;> rcases hdd with hdd | hdd
      · have e1 : ¬ n < 0 := by omega
        have e2 : ¬ d < 0 := by omega
        simp only [e1, e2, decide_false, bne_self_eq_false, Bool.false_eq_true, if_false]
        rw [hn, hdd]; simp only [Int.natCast_mul]; rw [Int.mul_comm (g : Int) u, Int.mul_assoc]
      · have e1 : ¬ n < 0 := by omega
        have e2 : d < 0 := by omega
        simp only [e1, e2, decide_false, decide_true, if_true, show (false != true) = true from rfl]
        rw [hn, hdd]; simp only [Int.natCast_mul]; rw [Int.neg_mul_neg, Int.mul_comm (g : Int) u, Int.mul_assoc]
      · by_cases e1 : n < 0
        · have e2 : ¬ d < 0 := by omega
          simp only [e1, e2, decide_false, decide_true, if_true, show (true != false) = true from rfl]
          rw [hn, hdd]; simp only [Int.natCast_mul]; rw [Int.neg_mul, Int.neg_mul, Int.mul_comm (g : Int) u, Int.mul_assoc]
        · have e0 : g * u = 0 := by omega
          have hgz : u = 0 := by rcases Nat.mul_eq_zero.1 e0 with h | h <;> omega
          have hnz : n = 0 := by omega
          rw [hnz, hgz]; simp
      · by_cases e1 : n < 0
        · have e2 : d < 0 := by omega
          simp only [e1, e2, decide_true, bne_self_eq_false, Bool.false_eq_true, if_false]
          rw [hn, hdd]; simp only [Int.natCast_mul]; rw [Int.mul_neg, Int.neg_mul, Int.mul_comm (g : Int) u, Int.mul_assoc]
        · have e0 : g * u = 0 := by omega
          have hgz : u = 0 := by rcases Nat.mul_eq_zero.1 e0 with h | h <;> omega
          have hnz : n = 0 := by omega
          rw [hnz, hgz]; simp

theorem right_of {n d : Int} (h : Right ⟨n, d⟩) (e : d ≠ 0 := by have := h.1; omega) : ofV n d = (⟨n, d⟩, 0) := ofV_unique h e rfl
theorem low_ok {n d : Int} (hd : d ≠ 0) (h1 : n.natAbs ≤ 1073741824) (h2 : d.natAbs ≤ 1073741824) : (ofV n d).2 = 0 := by
  unfold ofV
  rw [if_neg hd, if_neg]
  have := Nat.div_le_self n.natAbs (n.natAbs.gcd d.natAbs)
  have := Nat.div_le_self d.natAbs (n.natAbs.gcd d.natAbs)
  omega
theorem low_zero (n : Int) : ofV n 0 = (⟨0, 0⟩, 1) := by simp [ofV]
theorem low_mul {n d k : Int} (hk : 0 < k) (h1 : n.natAbs ≤ 1073741824) (h2 : d.natAbs ≤ 1073741824) : ofV (n * k) (d * k) = ofV n d := by
  by_cases hd : d = 0
  · subst hd; rw [Int.zero_mul, low_zero, low_zero]
  · have ho := low_ok hd h1 h2
    have hr := ofV_right ho
    have hs := ofV_same ho
    rw [ofV_unique hr (Int.mul_ne_zero hd (by omega)) (by rw [← Int.mul_assoc, hs]; ac_rfl)]
    exact Prod.ext rfl ho.symm
theorem low_neg {n d : Int} (h1 : n.natAbs ≤ 1073741824) (h2 : d.natAbs ≤ 1073741824) : ofV (-n) (-d) = ofV n d := by
  by_cases hd : d = 0
  · subst hd; rw [Int.neg_zero, low_zero, low_zero]
  · have ho := low_ok hd h1 h2
    have hr := ofV_right ho
    have hs := ofV_same ho
    rw [ofV_unique hr (by omega) (by rw [Int.neg_mul, Int.mul_neg, hs])]
    exact Prod.ext rfl ho.symm
theorem low_null {d : Int} (hd : d ≠ 0) : ofV 0 d = (⟨0, 1⟩, 0) := ofV_unique (by decide) hd (by simp)

def addV (a b : Rt) : Rt × Int := if Right a ∧ Right b then ofV (a.n * b.d + b.n * a.d) (a.d * b.d) else (⟨0, 0⟩, 1)
def subV (a b : Rt) : Rt × Int := if Right a ∧ Right b then ofV (a.n * b.d - b.n * a.d) (a.d * b.d) else (⟨0, 0⟩, 1)
def mulV (a b : Rt) : Rt × Int := if Right a ∧ Right b then ofV (a.n * b.n) (a.d * b.d) else (⟨0, 0⟩, 1)
def sgn (a b : Int) : Int := if a < b then -1 else if b < a then 1 else 0
def cmpV (a b : Rt) : Int := if Right a ∧ Right b then sgn (a.n * b.d) (b.n * a.d) else 0
theorem add_comm' (a b : Rt) : addV a b = addV b a := by
  unfold addV
  by_cases h : Right a ∧ Right b
  · rw [if_pos h, if_pos h.symm, Int.add_comm, Int.mul_comm a.d]
  · rw [if_neg h, if_neg (fun e => h e.symm)]
theorem mul_comm' (a b : Rt) : mulV a b = mulV b a := by
  unfold mulV
  by_cases h : Right a ∧ Right b
  · rw [if_pos h, if_pos h.symm, Int.mul_comm, Int.mul_comm a.d]
  · rw [if_neg h, if_neg (fun e => h e.symm)]
theorem dpos {a : Rt} (h : Right a) : 0 < a.d := by have := h.1; omega
theorem sub_add {a b : Rt} (ha : Right a) (hb : Right b) (h : (addV a b).2 = 0) : subV (addV a b).1 b = (a, 0) := by
  have e : addV a b = ofV (a.n * b.d + b.n * a.d) (a.d * b.d) := if_pos ⟨ha, hb⟩
  rw [e] at h ⊢
  have hx := ofV_right h
  have hs := ofV_same h
  generalize (ofV (a.n * b.d + b.n * a.d) (a.d * b.d)).1 = x at *
  unfold subV
  rw [if_pos ⟨hx, hb⟩]
  have := dpos hx; have := dpos hb
  refine ofV_unique ha (Int.mul_ne_zero (by omega) (by omega)) ?_
  rw [Int.sub_mul]
  have e1 : x.n * b.d * a.d = x.n * (a.d * b.d) := by rw [Int.mul_assoc, Int.mul_comm b.d]
  rw [e1, hs, Int.add_mul]
  have e2 : b.n * a.d * x.d = b.n * x.d * a.d := by ac_rfl
  rw [e2]
  have e3 : a.n * b.d * x.d = a.n * (x.d * b.d) := by ac_rfl
  rw [e3]; omega
theorem sgn_mul {a b k : Int} (hk : 0 < k) : sgn (a * k) (b * k) = sgn a b := by
  unfold sgn
  have h1 : a * k < b * k ↔ a < b := ⟨fun h => Int.lt_of_mul_lt_mul_right h (by omega), fun h => Int.mul_lt_mul_of_pos_right h hk⟩
  have h2 : b * k < a * k ↔ b < a := ⟨fun h => Int.lt_of_mul_lt_mul_right h (by omega), fun h => Int.mul_lt_mul_of_pos_right h hk⟩
  simp only [h1, h2]
theorem sgn_sub (a b : Int) : sgn (a - b) 0 = sgn a b := by unfold sgn; split <;> split <;> (try split) <;> (try split) <;> omega
theorem cmp_sub {a b : Rt} (ha : Right a) (hb : Right b) (h : (subV a b).2 = 0) : cmpV (subV a b).1 ⟨0, 1⟩ = cmpV a b := by
  have e : subV a b = ofV (a.n * b.d - b.n * a.d) (a.d * b.d) := if_pos ⟨ha, hb⟩
  rw [e] at h ⊢
  have hx := ofV_right h
  have hs := ofV_same h
  generalize (ofV (a.n * b.d - b.n * a.d) (a.d * b.d)).1 = x at *
  unfold cmpV
  rw [if_pos ⟨hx, by decide⟩, if_pos ⟨ha, hb⟩]
  have hab := Int.mul_pos (dpos ha) (dpos hb)
  show sgn (x.n * 1) (0 * x.d) = _
  have e4 := sgn_mul (a := a.n * b.d - b.n * a.d) (b := 0) (dpos hx)
  rw [Int.zero_mul] at e4
  rw [Int.mul_one, Int.zero_mul, ← sgn_mul hab, hs, ← sgn_sub (a.n * b.d), Int.zero_mul, e4]
theorem sgn_anti (a b : Int) : sgn b a = -sgn a b := by unfold sgn; split <;> split <;> (try split) <;> omega
theorem cmp_anti (a b : Rt) : cmpV b a = -cmpV a b := by
  unfold cmpV
  by_cases h : Right a ∧ Right b
  · rw [if_pos h, if_pos h.symm, sgn_anti]
  · rw [if_neg h, if_neg (fun e => h e.symm)]; rfl
theorem sgn_zero {a b : Int} (h : sgn a b = 0) : a = b := by unfold sgn at h; split at h <;> (try split at h) <;> omega
theorem sgn_pos {a b : Int} : 0 < sgn a b ↔ b < a := by unfold sgn; split <;> (try split) <;> omega
theorem sgn_neg {a b : Int} : sgn a b < 0 ↔ a < b := by unfold sgn; split <;> (try split) <;> omega
theorem cmp_zero {a b : Rt} (ha : Right a) (hb : Right b) (h : cmpV a b = 0) : a = b := by
  unfold cmpV at h
  rw [if_pos ⟨ha, hb⟩] at h
  have h1 := ofV_unique ha (by have := dpos ha; omega) (rfl : a.n * a.d = a.n * a.d)
  have h2 := ofV_unique hb (by have := dpos ha; omega) (sgn_zero h)
  rw [h1] at h2; exact congrArg Prod.fst h2
theorem cmp_self {a : Rt} : cmpV a a = 0 := by unfold cmpV; split <;> simp [sgn]
theorem lt_trans' {a b c : Rt} (ha : Right a) (hb : Right b) (hc : Right c) (h1 : b.n * a.d < a.n * b.d) (h2 : c.n * b.d < b.n * c.d) : c.n * a.d < a.n * c.d := by
  have k1 := Int.mul_lt_mul_of_pos_right h1 (dpos hc)
  have k2 := Int.mul_lt_mul_of_pos_right h2 (dpos ha)
  have e1 : b.n * a.d * c.d = b.n * c.d * a.d := by ac_rfl
  have e2 : c.n * b.d * a.d = c.n * a.d * b.d := by ac_rfl
  have e3 : a.n * b.d * c.d = a.n * c.d * b.d := by ac_rfl
  rw [e1, e3] at k1; rw [e2] at k2
  exact Int.lt_of_mul_lt_mul_right (Int.lt_trans k2 k1) (by have := dpos hb; omega)
theorem cmp_up {a b c : Rt} (ha : Right a) (hb : Right b) (hc : Right c) (h1 : 0 < cmpV a b) (h2 : 0 < cmpV b c) : 0 < cmpV a c := by
  unfold cmpV at *
  rw [if_pos ⟨ha, hb⟩] at h1; rw [if_pos ⟨hb, hc⟩] at h2; rw [if_pos ⟨ha, hc⟩]
  exact sgn_pos.2 (lt_trans' ha hb hc (sgn_pos.1 h1) (sgn_pos.1 h2))
theorem cmp_down {a b c : Rt} (ha : Right a) (hb : Right b) (hc : Right c) (h1 : cmpV a b < 0) (h2 : cmpV b c < 0) : cmpV a c < 0 := by
  have := cmp_up hc hb ha (by rw [cmp_anti]; omega) (by rw [cmp_anti]; omega)
  rw [cmp_anti]; omega

/-- Rounding. -/
def rdV (low rest of how : Int) : Int :=
  if how = 1 then low else if how = 2 then low + min rest 1
  else if how = 3 then (if of ≤ 2 * rest then low + min rest 1 else low)
  else if 2 * rest = of ∧ low % 2 = 0 then low else if of ≤ 2 * rest then low + min rest 1 else low
def roundV (r : Rt) (how : Int) : Int := rdV (r.n / r.d) (r.n % r.d) r.d how
theorem round_parts {r : Rt} (h : Right r) : 0 ≤ r.n % r.d ∧ r.n % r.d < r.d ∧ r.n = r.n / r.d * r.d + r.n % r.d := by
  have := dpos h
  refine ⟨Int.emod_nonneg _ (by omega), Int.emod_lt_of_pos _ this, ?_⟩
  have := Int.emod_add_mul_ediv r.n r.d
  rw [Int.mul_comm] at this; omega
theorem rd_near {q s D how : Int} (h0 : 0 ≤ s) (h1 : s < D) : rdV q s D how = q ∨ (rdV q s D how = q + 1 ∧ 0 < s) := by
  unfold rdV; split <;> (try split) <;> (try split) <;> (try split) <;> (try split) <;> omega
theorem next_near {r : Rt} (h : Right r) (how : Int) : roundV r how * r.d - r.n < r.d ∧ r.n - roundV r how * r.d < r.d ∧ (r.d = 1 → roundV r how = r.n) := by
  obtain ⟨h0, h1, h2⟩ := round_parts h
  have hn := rd_near (q := r.n / r.d) (how := how) h0 h1
  unfold roundV
  generalize r.n / r.d = q at *
  generalize r.n % r.d = s at *
  rcases hn with hn | ⟨hn, hp⟩ <;> rw [hn]
  · refine ⟨by omega, by omega, fun e => ?_⟩
    rw [e] at h1 h2; omega
  · rw [Int.add_mul]
    exact ⟨by omega, by omega, fun e => by omega⟩
theorem next_half {r : Rt} (h : Right r) (how : Int) (hh : how = 3 ∨ how = 4) : 2 * (roundV r how * r.d - r.n) ≤ r.d ∧ 2 * (r.n - roundV r how * r.d) ≤ r.d := by
  obtain ⟨h0, h1, h2⟩ := round_parts h
  unfold roundV rdV
  generalize r.n / r.d = q at *
  generalize r.n % r.d = s at *
  rcases hh with rfl | rfl
  · rw [if_neg (by omega), if_neg (by omega), if_pos rfl]
    split
    · rw [Int.add_mul]
      have : min s 1 = 1 := by omega
      rw [this]; omega
    · omega
  · rw [if_neg (by omega), if_neg (by omega), if_neg (by omega)]
    split
    · omega
    · split
      · rw [Int.add_mul]
        have : min s 1 = 1 := by omega
        rw [this]; omega
      · omega
theorem next_mono {a b : Rt} (ha : Right a) (hb : Right b) (how : Int) (hh : how = 1 ∨ how = 2 ∨ how = 3 ∨ how = 4) (h : a.n * b.d < b.n * a.d) : roundV a how ≤ roundV b how := by
  obtain ⟨h0, h1, h2⟩ := round_parts ha
  obtain ⟨k0, k1, k2⟩ := round_parts hb
  have hn := rd_near (q := a.n / a.d) (how := how) h0 h1
  have kn := rd_near (q := b.n / b.d) (how := how) k0 k1
  unfold roundV
  have pa := dpos ha
  have pb := dpos hb
  generalize a.n / a.d = q at *
  generalize a.n % a.d = s at *
  generalize b.n / b.d = p at *
  generalize b.n % b.d = t at *
  rw [h2, k2, Int.add_mul, Int.add_mul] at h
  -- q ≤ p
  have e1 : q * a.d * b.d = q * (a.d * b.d) := by ac_rfl
  have e2 : p * b.d * a.d = p * (a.d * b.d) := by ac_rfl
  rw [e1, e2] at h
  have l0 := Int.mul_nonneg h0 (show 0 ≤ b.d by omega)
  have l1 : t * a.d < b.d * a.d := Int.mul_lt_mul_of_pos_right k1 pa
  rw [Int.mul_comm b.d] at l1
  have hP := Int.mul_pos pa pb
  generalize a.d * b.d = P at *
  have hqp : q ≤ p := by
    rcases Int.lt_or_le p q with hc | hc
    · have : (p + 1) * P ≤ q * P := Int.mul_le_mul_of_nonneg_right hc (by omega)
      rw [Int.add_mul] at this; omega
    · exact hc
  rcases Int.lt_or_eq_of_le hqp with hc | rfl
  · omega
  · have hst : s * b.d < t * a.d := by omega
    -- if 2 s ≥ a.d then 2 t > b.d
    have hhalf : a.d ≤ 2 * s → b.d < 2 * t := fun hx => by
      rcases Int.lt_or_le b.d (2 * t) with hy | hy
      · exact hy
      · have u1 := Int.mul_le_mul_of_nonneg_right hx (show 0 ≤ b.d by omega)
        have u2 := Int.mul_le_mul_of_nonneg_right hy (show 0 ≤ a.d by omega)
        rw [Int.mul_assoc] at u1 u2
        rw [Int.mul_comm b.d] at u2
        omega
    have hpos : 0 < s → 0 < t := fun _ => by
      rcases Int.lt_or_le 0 t with hy | hy
      · exact hy
      · have : t = 0 := by omega
        rw [this] at hst; omega
    clear hst h l0 l1 h2 k2 e1 e2 hn kn
    unfold rdV
    rcases hh with rfl | rfl | rfl | rfl
    · simp
    · simp only [show ¬ (2 : Int) = 1 by omega, if_false, if_true]; omega
    · simp only [show ¬ (3 : Int) = 1 by omega, show ¬ (3 : Int) = 2 by omega, if_false, if_true]
      split <;> split <;> omega
    · simp only [show ¬ (4 : Int) = 1 by omega, show ¬ (4 : Int) = 2 by omega, show ¬ (4 : Int) = 3 by omega, if_false]
      split <;> split <;> (try split) <;> (try split) <;> omega
theorem neg_parts {n d : Int} (hd : 0 < d) : (n % d = 0 → (-n) / d = -(n / d) ∧ (-n) % d = 0) ∧ (0 < n % d → (-n) / d = -(n / d) - 1 ∧ (-n) % d = d - n % d) := by
  have h1 := Int.emod_lt_of_pos n hd
  have h2 := Int.emod_add_mul_ediv n d
  constructor
  · intro h
    rw [Int.ediv_emod_unique hd]
    rw [Int.mul_neg]; omega
  · intro h
    rw [Int.ediv_emod_unique hd]
    rw [Int.mul_sub, Int.mul_neg]; omega
theorem next_neg {r : Rt} (h : Right r) : roundV r 1 = -roundV ⟨-r.n, r.d⟩ 2 ∧ roundV r 2 = -roundV ⟨-r.n, r.d⟩ 1 ∧ roundV r 4 = -roundV ⟨-r.n, r.d⟩ 4 := by
  obtain ⟨h0, h1, _⟩ := round_parts h
  obtain ⟨p1, p2⟩ := neg_parts (n := r.n) (dpos h)
  unfold roundV rdV
  simp only [show ¬ (2 : Int) = 1 by omega, show ¬ (4 : Int) = 1 by omega, show ¬ (4 : Int) = 2 by omega, show ¬ (4 : Int) = 3 by omega, if_false, if_true]
  rcases Int.lt_or_eq_of_le h0 with hs | hs
  · obtain ⟨e1, e2⟩ := p2 hs
    rw [e1, e2]
    refine ⟨by omega, by omega, ?_⟩
    split <;> split <;> (try split) <;> (try split) <;> omega
  · obtain ⟨e1, e2⟩ := p1 hs.symm
    rw [e1, e2, ← hs]
    have := dpos h
    refine ⟨by omega, by omega, ?_⟩
    split <;> split <;> (try split) <;> (try split) <;> omega
theorem next_order {r : Rt} (h : Right r) : roundV r 1 ≤ roundV r 4 ∧ roundV r 4 ≤ roundV r 3 ∧ roundV r 3 ≤ roundV r 2 := by
  obtain ⟨h0, h1, _⟩ := round_parts h
  unfold roundV rdV
  simp only [show ¬ (2 : Int) = 1 by omega, show ¬ (3 : Int) = 1 by omega, show ¬ (3 : Int) = 2 by omega, show ¬ (4 : Int) = 1 by omega, show ¬ (4 : Int) = 2 by omega, show ¬ (4 : Int) = 3 by omega, if_false, if_true]
  refine ⟨?_, ?_, ?_⟩ <;> split <;> (try split) <;> (try split) <;> omega
theorem right_neg {r : Rt} (h : Right r) : Right ⟨-r.n, r.d⟩ := by
  obtain ⟨h1, h2, h3, h4, h5⟩ := h
  exact ⟨h1, h2, by show _ ≤ -r.n; omega, by show -r.n ≤ _; omega, by show (-r.n).natAbs.gcd _ = 1; rw [Int.natAbs_neg]; exact h5⟩
end Go.Proofs.YtmbjoenegcnoiaaDoor
