/- request.Active: what stays of the set, in its order. -/
import Derived.Test.YteopjiedjnaeiaaGreatDgae
import Derived.Test.YteopjiedjnaeiaaGreatDgab
/- request.Active's closure: a request goes if its number is done, or it is not right; else its number is done. -/
namespace Go.Proofs.YteopjiedjnaeiaaGreat
open Go Go.Proofs Go.RowKit Go.Maps Go.Sort Go.Lib
attribute [local go_sem] Req.cells

theorem wpList_lookup_own_bool {P : Program} (w : World) {ops : Array Oper} {rest : List Oper} {o : Oper} {a : Act} {Q : Exit → Act → World → Prop}
    (hg : o.guard = none) (m x : Operand) (t : TypeId) (hop : o.op = Op.lookup t m x false)
    (k e : TypeId) (K : Keyed P k) (ht : P.underlying t = some (.map k e)) (he : P.underlying e = some .bool) (hz : (zeroValue e).run P w = .ok (.bool false) w) (b n : Nat) (D : DataW Unit)
    (hm : a.eval m = .map (some b)) (hown : w.ownsMap P k (plainElem P e) b n D) (key : Value) (kl : Lit) (hx : a.eval x = key) (hkey : keyOf P k key = some kl) (c : Bool) (hat : D.atKey kl (.lit (.bool false)) = .lit (.bool c))
    (hK : wpList P ops Q rest (a.put o.dst (.bool c)) w) :
    wpList P ops Q (o :: rest) a w := by
  refine wpList_plain hg fun K' hK' => ?_
  obtain ⟨v, ps, hrun, hv⟩ := hown.lookup K ht hz (plainElem_bool he false) hkey
  rw [hat] at hv
  have hvb : v = .bool c := by
    unfold plainElem at hv
    rw [he] at hv
    cases v <;> simp at hv
    rw [hv.1]
  subst hvb
  unfold Oper.wp
  simp [execOp, hop, hm, hx, hrun, Result.andThen]
  exact hK' _ _ hK

/-- The number of a request, as a key. -/
def keyV (s q : Int) : Value := .agg #[.int .i64 s, .int .i64 q]
def litK (s q : Int) : Lit := .string (keyBytes [.int .i64 s, .int .i64 q])
theorem ky_keyed : Maps.Keyed Tryz.prog 93 :=
  Maps.Keyed.of_law (deep_law_laid rq_laidOut (m := 2) (by omega) (of_decide_eq_true (by kernel_rfl)) (by kernel_rfl) (by rw [Tryz.underlying93]))
set_option maxRecDepth 100000 in
theorem key_num (s q : Int) (hs : (Lit.int .i64 s).wf = true) (hq : (Lit.int .i64 q).wf = true) : keyOf Tryz.prog 93 (.agg #[.int .i64 s, .int .i64 q]) = some (litK s q) := by
  have hn : Tryz.prog.cellsOf 93 = 2 := by kernel_rfl
  have c1 : Tryz.prog.cellsOf 3 = 1 := by kernel_rfl
  have hk : Tryz.prog.keyType 93 = true := by kernel_rfl
  obtain ⟨sz, hsz⟩ : ∃ sz, Tryz.prog.types.size = sz + 1 := ⟨Tryz.prog.types.size - 1, by kernel_rfl⟩
  unfold keyOf
  rw [Tryz.underlying93]
  simp only [hk, Value.formed, Tryz.underlying93, hn]
  unfold Program.keyLits
  rw [Tryz.underlying93, hsz]
  simp [hn, c1, Value.cells, lits_int, hs, hq, litK]
theorem litK_inj {s q s' q' : Int} (hs : (Lit.int .i64 s).wf = true) (hq : (Lit.int .i64 q).wf = true) (hs' : (Lit.int .i64 s').wf = true) (hq' : (Lit.int .i64 q').wf = true) (h : litK s q = litK s' q') : s = s' ∧ q = q' := by
  have := ky_keyed.inj (key_num s q hs hq) (by rw [h]; exact key_num s' q' hs' hq')
  simpa using this
/-- The map's keys are the numbers. -/
def NumsAre (D : DataW Unit) (K : List (Int × Int)) : Prop := ∀ s q, (Lit.int .i64 s).wf = true → (Lit.int .i64 q).wf = true → D.atKey (litK s q) (.lit (.bool false)) = .lit (.bool (decide ((s, q) ∈ K)))
theorem NumsAre.put {D : DataW Unit} {K : List (Int × Int)} (h : NumsAre D K) (hm : Maps.IsMap D) {s q : Int} (hs : (Lit.int .i64 s).wf = true) (hq : (Lit.int .i64 q).wf = true) : NumsAre (D.put (litK s q) (.lit (.bool true))) ((s, q) :: K) := fun s' q' hs' hq' => by
  by_cases e : s' = s ∧ q' = q
  · obtain ⟨rfl, rfl⟩ := e
    rw [Maps.atKey_put_same hm (k := litK s' q') (by simp [litK, WideAt.IsKeyLit])]
    simp
  · rw [Maps.atKey_put_other (fun e' => e (litK_inj hs' hq' hs hq e')), h s' q' hs' hq']
    have : (s', q') ≠ (s, q) := fun e' => e (by simpa using e')
    simp [this]
/-- What the closure answers. -/
def goneR (K : List (Int × Int)) (r : Req) : Bool := decide ((r.server, r.seq) ∈ K) || decide (chkR r ≠ 0)
def nextK (K : List (Int × Int)) (r : Req) : List (Int × Int) := if goneR K r then K else (r.server, r.seq) :: K
theorem below_grows {w w' : World} {row : Option Nat} (h : RowKit.Below w.heap.size w w') : w.grownBy w' row :=
  ⟨h.os, h.tape, h.output, h.size, fun i hi _ => h.block i hi⟩
theorem grows_trans {w w' w'' : World} {row : Option Nat} (h : w.grownBy w' row) (h' : w'.grownBy w'' row) : w.grownBy w'' row :=
  ⟨h'.os.trans h.os, h'.tape.trans h.tape, h'.output.trans h.output, Nat.le_trans h.size h'.size, fun i hi hne => (h'.block i (Nat.lt_of_lt_of_le hi h.size) hne).trans (h.block i hi hne)⟩
/-- What stands behind the closure. -/
def GonePost (mb n : Nat) (K : List (Int × Int)) (r : Req) (w : World) (e : Ending) (w' : World) : Prop :=
  e = .returned (.bool (goneR K r)) ∧ w.grownBy w' (some mb) ∧ ∃ D' : DataW Unit, w'.ownsMap Tryz.prog 93 (plainElem Tryz.prog 4) mb (n + 1) D' ∧ NumsAre D' (nextK K r)
set_option maxHeartbeats 4000000 in
set_option maxRecDepth 100000 in
theorem gone_any (bx mb n : Nat) (D : DataW Unit) (K : List (Int × Int)) (r : Req) (w : World) (hwf : r.wf) (hcs : r.code.size ≤ 9223372036854775807) (hgs : r.give.size ≤ 9223372036854775807)
    (hc : w.cell? ⟨bx, 0, none⟩ = some (.map (some mb))) (hown : w.ownsMap Tryz.prog 93 (plainElem Tryz.prog 4) mb n D) (hD : NumsAre D K) (hn : n < maxLen) :
    Calls Tryz.prog 40 #[r.val, .pointer (some ⟨bx, 0, none⟩)] w (GonePost mb n K r w) := by
  have hw1 : (Lit.int .i64 r.server).wf = true := hwf.1
  have hw2 : (Lit.int .i64 r.seq).wf = true := hwf.2.1
  have hat := hD r.server r.seq hw1 hw2
  have hDD := hD
  have hkn := key_num r.server r.seq hw1 hw2
  have hD' := hD.put hown.isMap hw1 hw2
  have hck := fun w => rqCheck_any r hcs hgs w
  have hbx : bx < w.heap.size := World.block_lt_of_cell? w _ hc
  have hmb : mb < w.heap.size := hown.lt
  have hb2 : RowKit.Below w.heap.size w ((w.alloc (.cells r.cells 39)).alloc (.cells #[.int .i64 r.server, .int .i64 r.seq] 93)) := ((Below.refl _ _).alloc (Nat.le_refl _) _).alloc (by simp) _
  have hown2 := (hown.alloc (.cells r.cells 39)).alloc (.cells #[.int .i64 r.server, .int .i64 r.seq] 93)
  obtain ⟨c, hcc⟩ : ∃ c, decide ((r.server, r.seq) ∈ K) = c := ⟨_, rfl⟩
  obtain ⟨R, hR⟩ : ∃ R, chkR r = R := ⟨_, rfl⟩
  have HG : Hid (goneR K r = (c || decide (R ≠ 0))) := Lib.hid (by rw [← hcc, ← hR]; rfl)
  rw [hcc] at hat
  rw [hR] at hck
  clear hcc hR hD
  have HP : Hid (nextK K r = if goneR K r then K else (r.server, r.seq) :: K) := Lib.hid rfl
  have HD := Lib.hid hD'
  have hD0 := Lib.hid hDD
  clear hD' hDD
  cases c
  · have hlk := hown2
    have h1 : RowKit.Below w.heap.size w _ := hb2
    by_cases h0 : R = 0
    · subst h0
      have HG' : Hid (goneR K r = false) := Lib.hid (by rw [HG.out]; rfl)
      have HP' : Hid (nextK K r = (r.server, r.seq) :: K) := Lib.hid (by rw [HP.out, HG'.out]; rfl)
      have hk0 : ((w.alloc (.cells r.cells 39)).alloc (.cells #[.int .i64 r.server, .int .i64 r.seq] 93)).cell? ⟨w.heap.size + 1, 0, none⟩ = some (.int .i64 r.server) := Lib.cell_of_heap (new_two _ _ _) 0
      have hk1 : ((w.alloc (.cells r.cells 39)).alloc (.cells #[.int .i64 r.server, .int .i64 r.seq] 93)).cell? ⟨w.heap.size + 1, 1, none⟩ = some (.int .i64 r.seq) := Lib.cell_of_heap (new_two _ _ _) 1
      have hks : w.heap.size + 1 < ((w.alloc (.cells r.cells 39)).alloc (.cells #[.int .i64 r.server, .int .i64 r.seq] 93)).heap.size := by simp
      have hc2 : ((w.alloc (.cells r.cells 39)).alloc (.cells #[.int .i64 r.server, .int .i64 r.seq] 93)).cell? ⟨bx, 0, none⟩ = some (.map (some mb)) := by rw [hb2.cell (p := ⟨bx, 0, none⟩) hbx]; exact hc
      have hcw := hck ((w.alloc (.cells r.cells 39)).alloc (.cells #[.int .i64 r.server, .int .i64 r.seq] 93))
      go_enter Tryz.func40, Tryz.ntmps40
      go_wp2_with (at_lookup; refine wpList_lookup_own_bool _ rfl _ _ 91 rfl 93 4 ky_keyed Tryz.underlying91 Tryz.underlying4 (Tryz.zeroValue4 _) mb n D rfl hown2 _ (litK r.server r.seq) rfl hkn false hat ?_)
      refine hcw.mono ?_
      rintro _ w3 ⟨rfl, hb3⟩
      have hc3 : w3.cell? ⟨bx, 0, none⟩ = some (.map (some mb)) := by rw [hb3.cell (p := ⟨bx, 0, none⟩) (by simp; omega)]; exact hc2
      have hk03 : w3.cell? ⟨w.heap.size + 1, 0, none⟩ = some (.int .i64 r.server) := by rw [hb3.cell (p := ⟨w.heap.size + 1, 0, none⟩) hks]; exact hk0
      have hk13 : w3.cell? ⟨w.heap.size + 1, 1, none⟩ = some (.int .i64 r.seq) := by rw [hb3.cell (p := ⟨w.heap.size + 1, 1, none⟩) hks]; exact hk1
      have hown3 := hown2.kept (below_grows (row := none) hb3) (by simp)
      have hg3 : w.grownBy w3 (some mb) := grows_trans (below_grows hb2) (below_grows hb3)
      clear hb3 hb2 hown2 hcw hck hk0 hk1 hks hc2 h1 hlk
      go_wp2_with (at_mapUpdate; refine wpList_mapUpdate_own _ rfl _ _ _ 91 rfl 93 4 ky_keyed Tryz.underlying91 _ mb n D rfl hown3 hn _ (.bool true) (litK r.server r.seq) rfl rfl hkn (.lit (.bool true)) [] (plainElem_bool Tryz.underlying4 true) ?_; intro w4 hown4 hg4)
      go_ret
      exact ⟨ret_bool (by rw [HG'.out]), grows_trans hg3 hg4, _, hown4, by rw [HP'.out]; exact HD.out⟩
    · have HG' : Hid (goneR K r = true) := Lib.hid (by rw [HG.out]; simp [h0])
      have HP' : Hid (nextK K r = K) := Lib.hid (by rw [HP.out, HG'.out]; rfl)
      have hcw := hck ((w.alloc (.cells r.cells 39)).alloc (.cells #[.int .i64 r.server, .int .i64 r.seq] 93))
      go_enter Tryz.func40, Tryz.ntmps40
      go_wp2_with (at_lookup; refine wpList_lookup_own_bool _ rfl _ _ 91 rfl 93 4 ky_keyed Tryz.underlying91 Tryz.underlying4 (Tryz.zeroValue4 _) mb n D rfl hown2 _ (litK r.server r.seq) rfl hkn false hat ?_)
      refine hcw.mono ?_
      rintro _ w3 ⟨rfl, hb3⟩
      have hown3 := hown2.kept (below_grows (row := none) hb3) (by simp)
      have hg3 : w.grownBy w3 (some mb) := grows_trans (below_grows hb2) (below_grows hb3)
      clear hb3 hb2 hown2 hcw hck h1 hlk
      go_wp2_with fail
      go_ret
      exact ⟨ret_bool (by rw [HG'.out]), hg3, D, hown3.mono (by omega), by rw [HP'.out]; exact hD0.out⟩
  · have HG' : Hid (goneR K r = true) := Lib.hid (by rw [HG.out]; rfl)
    have HP' : Hid (nextK K r = K) := Lib.hid (by rw [HP.out, HG'.out]; rfl)
    go_enter Tryz.func40, Tryz.ntmps40
    go_wp2_with (at_lookup; refine wpList_lookup_own_bool _ rfl _ _ 91 rfl 93 4 ky_keyed Tryz.underlying91 Tryz.underlying4 (Tryz.zeroValue4 _) mb n D rfl hown2 _ (litK r.server r.seq) rfl hkn true hat ?_)
    go_ret
    exact ⟨ret_bool (by rw [HG'.out]), below_grows hb2, D, hown2.mono (by omega), by rw [HP'.out]; exact hD0.out⟩
end Go.Proofs.YteopjiedjnaeiaaGreat
/- slices.IndexFunc by Active's closure: the first that goes. -/
namespace Go.Proofs.YteopjiedjnaeiaaGreat
open Go Go.Proofs Go.RowKit Go.Maps Go.Sort Go.Lib
attribute [local go_sem] Req.cells

/-- The closure's state. -/
structure ActSt (bx mb n : Nat) (K : List (Int × Int)) (w : World) : Prop where
  cell : w.cell? ⟨bx, 0, none⟩ = some (.map (some mb))
  map : ∃ D : DataW Unit, w.ownsMap Tryz.prog 93 (plainElem Tryz.prog 4) mb n D ∧ NumsAre D K
def Req.fits (r : Req) : Prop := r.wf ∧ r.code.size ≤ 9223372036854775807 ∧ r.give.size ≤ 9223372036854775807
theorem gone_st (bx mb n : Nat) (K : List (Int × Int)) (r : Req) (w : World) (hne : bx ≠ mb) (hf : r.fits) (hn : n < maxLen) (h : ActSt bx mb n K w) :
    Calls Tryz.prog 40 #[r.val, .pointer (some ⟨bx, 0, none⟩)] w fun e w' => e = .returned (.bool (goneR K r)) ∧ w.grownBy w' (some mb) ∧ ActSt bx mb (n + 1) (nextK K r) w' := by
  obtain ⟨D, h1, h2⟩ := h.map
  refine (gone_any bx mb n D K r w hf.1 hf.2.1 hf.2.2 h.cell h1 h2 hn).mono ?_
  rintro e w' ⟨rfl, hg, D', h3, h4⟩
  exact ⟨rfl, hg, hg.cell h.cell (by simpa using hne), D', h3, h4⟩
def stK (K : List (Int × Int)) (L : List Req) : List (Int × Int) := L.foldl nextK K
def keepR : List (Int × Int) → List Req → List Req
  | _, [] => []
  | K, r :: L => (if goneR K r then [] else [r]) ++ keepR (nextK K r) L
theorem keepR_app (K : List (Int × Int)) (L M : List Req) : keepR K (L ++ M) = keepR K L ++ keepR (stK K L) M := by
  induction L generalizing K with
  | nil => rfl
  | cons r L ih => simp only [List.cons_append, keepR, ih, List.append_assoc]; rfl
theorem stK_app (K : List (Int × Int)) (L M : List Req) : stK K (L ++ M) = stK (stK K L) M := List.foldl_append ..
theorem keepR_snoc (K : List (Int × Int)) (L : List Req) (r : Req) : keepR K (L ++ [r]) = keepR K L ++ (if goneR (stK K L) r then [] else [r]) := by
  rw [keepR_app]; simp [keepR]
theorem stK_snoc (K : List (Int × Int)) (L : List Req) (r : Req) : stK K (L ++ [r]) = nextK (stK K L) r := by rw [stK_app]; rfl
theorem take_snoc {L : List Req} {k : Nat} {r : Req} (h : L[k]? = some r) : L.take (k + 1) = L.take k ++ [r] := by rw [List.take_add_one, h]; rfl
theorem ReqAt.grown {w w' : World} {b o : Nat} {r : Req} {row : Option Nat} (h : ReqAt w b o r) (hg : w.grownBy w' row) (hne : some b ≠ row) : ReqAt w' b o r := fun j v hj => hg.cell (h j v hj) hne
/-- What stands behind IndexFunc. -/
def IdxPost (bx mb n : Nat) (K : List (Int × Int)) (L : List Req) (w : World) (e : Ending) (w' : World) : Prop :=
  w.grownBy w' (some mb) ∧ ∃ k, k ≤ L.length ∧ keepR K (L.take k) = L.take k ∧
    ((k = L.length ∧ e = .returned (.int .i64 (-1)) ∧ ActSt bx mb (n + k) (stK K (L.take k)) w') ∨
     ∃ r, L[k]? = some r ∧ goneR (stK K (L.take k)) r = true ∧ e = .returned (.int .i64 k) ∧ ActSt bx mb (n + (k + 1)) (stK K (L.take (k + 1))) w')
set_option maxHeartbeats 4000000 in
set_option maxRecDepth 100000 in
theorem index_any (bx mb n : Nat) (K : List (Int × Int)) (b o c : Nat) (L : List Req) (w : World) (hL : ∀ k r, L[k]? = some r → ReqAt w b (o + k * 9) r) (hfit : ∀ r ∈ L, r.fits)
    (hbm : b ≠ mb) (hbx : bx ≠ mb) (hst : ActSt bx mb n K w) (hn : n + L.length ≤ 10000000) (_hlc : L.length ≤ c) :
    Calls Tryz.prog 54 #[.slice (some ⟨b, o, none⟩) L.length c, .func (.func 40) #[] #[.pointer (some ⟨bx, 0, none⟩)]] w (IdxPost bx mb n K L w) := by
  have HL := Lib.hid hL
  have HF := Lib.hid hfit
  clear hL hfit
  go_enter Tryz.func54, Tryz.ntmps54
  go_wp2_with fail
  go_loopw [8] (fun i wr => ∃ k : Nat, k ≤ L.length ∧ i = .int .i64 k ∧ Hid (keepR K (L.take k) = L.take k) ∧ w.grownBy wr (some mb) ∧ Hid (ActSt bx mb (n + k) (stK K (L.take k)) wr)) (fun i _ => L.length - (RowKit.intOf i).toNat)
  case atStart => exact ⟨0, Nat.zero_le _, rfl, Lib.hid rfl, below_grows (Below.refl _ _), Lib.hid hst⟩
  case round =>
    obtain ⟨k, hk, rfl, HK, hg, HS⟩ := hrel
    by_cases hlt : k < L.length
    · have hx := List.getElem?_eq_getElem hlt
      have hxm := HF.out _ (List.getElem_mem hlt)
      generalize L[k] = x at hx hxm
      have hatk := (HL.out k x hx).grown hg (by simpa using hbm)
      have HX := Lib.hid hx
      have cg := gone_st bx mb (n + k) _ x wr hbx hxm (by unfold maxLen; omega) HS.out
      have HN := Lib.hid (stK_snoc K (L.take k) x)
      have HM := Lib.hid (keepR_snoc K (L.take k) x)
      rw [← take_snoc hx] at HN HM
      generalize hG : goneR (stK K (L.take k)) x = G at cg HM
      have HG := Lib.hid hG
      clear hx hG
      go_wp2_with (refine wpList_load_mid rfl 39 (.tmp 14) rfl _ _ rfl x.cells.toList _ hatk Tryz.underlying39 rfl (by kernel_rfl) ?_)
      refine cg.mono ?_
      rintro _ w1 ⟨rfl, hg1, hs1⟩
      have hg' := grows_trans hg hg1
      rw [← HN.out] at hs1
      have HS' : Hid (ActSt bx mb (n + (k + 1)) (stK K (L.take (k + 1))) w1) := Lib.hid hs1
      clear hs1 hg1 cg hatk hxm
      cases G
      · have HK' : Hid (keepR K (L.take (k + 1)) = L.take (k + 1)) := Lib.hid (by rw [HM.out, HK.out, take_snoc HX.out]; rfl)
        go_wp2_with fail
        go_roundw
        case rel => exact ⟨k + 1, by omega, by go_num, HK', hg', HS'⟩
        case measure => simp [RowKit.intOf]; omega
      · go_wp2_with fail
        go_ret
        exact ⟨hg', k, hk, HK.out, .inr ⟨x, HX.out, HG.out, rfl, HS'.out⟩⟩
    · obtain rfl : k = L.length := by omega
      go_wp2_with fail
      go_ret
      exact ⟨hg, L.length, Nat.le_refl _, HK.out, .inl ⟨rfl, rfl, HS.out⟩⟩
end Go.Proofs.YteopjiedjnaeiaaGreat
/- slices.DeleteFunc by Active's closure: what stays, in its order. -/
namespace Go.Proofs.YteopjiedjnaeiaaGreat
open Go Go.Proofs Go.RowKit Go.Maps Go.Sort Go.Lib
attribute [local go_sem] Req.cells

theorem ActSt.grown {bx mb n : Nat} {K : List (Int × Int)} {w w' : World} {row : Option Nat} (h : ActSt bx mb n K w) (hg : w.grownBy w' row) (h1 : some bx ≠ row) (h2 : some mb ≠ row) : ActSt bx mb n K w' := by
  obtain ⟨D, h3, h4⟩ := h.map
  exact ⟨hg.cell h.cell h1, D, h3.kept hg h2, h4⟩
theorem keepR_len (K : List (Int × Int)) (L : List Req) : (keepR K L).length ≤ L.length := by
  induction L generalizing K with
  | nil => exact Nat.le_refl _
  | cons r L ih =>
    have := ih (nextK K r)
    simp only [keepR, List.length_append, List.length_cons]
    split <;> simp <;> omega
/-- Some values written into a list from a place on. -/
def writeAt : List Value → Nat → List Value → List Value
  | xs, _, [] => xs
  | xs, j, u :: us => writeAt (xs.set j u) (j + 1) us
theorem writeAt_eq (us : List Value) : ∀ (xs : List Value) (j : Nat), j + us.length ≤ xs.length → writeAt xs j us = xs.take j ++ us ++ xs.drop (j + us.length) := by
  induction us with
  | nil => intro xs j h; simp [writeAt]
  | cons u us ih =>
    intro xs j h
    simp only [List.length_cons] at h
    rw [writeAt, ih _ _ (by simp; omega), List.take_add_one, List.take_set_of_le (Nat.le_refl _), List.drop_set_of_lt (by omega)]
    rw [List.getElem?_set_self (by omega)]
    simp [List.append_assoc, Nat.add_assoc, Nat.add_comm 1]
theorem row_setCells {base : Nat} {e : TypeId} {size n cap g : Nat} (us : List Value) : ∀ (w : World) (xs : List Value) (j : Nat), w.ownsRow base e size (.slice (some ⟨g, 0, none⟩) n cap) n xs →
    (w.setCells g j us).ownsRow base e size (.slice (some ⟨g, 0, none⟩) n cap) n (writeAt xs j us) ∧ w.grownBy (w.setCells g j us) (some g) := by
  induction us with
  | nil => intro w xs j h; exact ⟨h, below_grows (Below.refl _ _)⟩
  | cons u us ih =>
    intro w xs j h
    obtain ⟨h1, h2⟩ := h.stored j u
    obtain ⟨h3, h4⟩ := ih _ _ (j + 1) h1
    exact ⟨h3, grows_trans h2 h4⟩
theorem writeAt_req (X : List Req) (i : Nat) (r : Req) (h : i < X.length) : writeAt (reqCells X) (i * 9) r.cells.toList = reqCells (X.set i r) := by
  have hl : r.cells.toList.length = 9 := rfl
  have e : X = X.take i ++ X[i] :: X.drop (i + 1) := by rw [List.getElem_cons_drop, List.take_append_drop]
  have ht : (X.take i).length = i := by simp; omega
  rw [writeAt_eq _ _ _ (by rw [reqCells_len, hl]; omega), List.set_eq_take_append_cons_drop, if_pos h, hl]
  have c1 : (reqCells X).take (i * 9) = reqCells (X.take i) := by
    rw [e, reqCells_app, List.take_append_of_le_length (by rw [reqCells_len, ht]; omega), List.take_of_length_le (by rw [reqCells_len, ht]; omega)]
    simp
  have c2 : (reqCells X).drop (i * 9 + 9) = reqCells (X.drop (i + 1)) := by
    have e2 : X = X.take (i + 1) ++ X.drop (i + 1) := (List.take_append_drop _ _).symm
    have ht2 : (X.take (i + 1)).length = i + 1 := by simp; omega
    conv => lhs; rw [e2]
    rw [reqCells_app, List.drop_append_of_le_length (by rw [reqCells_len, ht2]; omega), List.drop_eq_nil_of_le (by rw [reqCells_len, ht2]; omega)]
    rfl
  rw [c1, c2, reqCells_app]
  simp [reqCells, List.append_assoc]
theorem row_there {w : World} {base : Nat} {e : TypeId} {size n cap g : Nat} {xs : List Value} (h : w.ownsRow base e size (.slice (some ⟨g, 0, none⟩) n cap) n xs) (o m : Nat) (hm : o + m ≤ n * size) : w.there g o m := fun j hj => by
  refine ⟨?_, h.frozenAt _⟩
  rw [h.cellAt (o + j) (by omega), List.getElem?_eq_getElem (by rw [h.1]; omega)]
  rfl
theorem row_prefix {w : World} {base : Nat} {e : TypeId} {size n cap g : Nat} {xs : List Value} (h : w.ownsRow base e size (.slice (some ⟨g, 0, none⟩) n cap) n xs) (m : Nat) (hm : m ≤ n) : w.ownsRow base e size (.slice (some ⟨g, 0, none⟩) m cap) m (xs.take (m * size)) := by
  have hmul : m * size ≤ n * size := Nat.mul_le_mul_right _ hm
  refine ⟨by rw [List.length_take, h.1]; omega, ?_⟩
  rcases h.2 with ⟨h', _⟩ | ⟨g', cap', cur, h', hb, hg, hnc, hcm, hcs, htake⟩
  · simp at h'
  · simp only [Value.slice.injEq, Option.some.injEq, Addr.mk.injEq, and_true, true_and] at h'
    obtain ⟨rfl, rfl⟩ := h'
    exact .inr ⟨g, cap, cur, rfl, hb, hg, by omega, hcm, hcs, by rw [← htake, List.take_take, Nat.min_eq_left hmul]⟩
def zeroR : Req := ⟨0, 0, false, 0, 0, ⟨#[]⟩, ⟨#[]⟩, 0, 0⟩
theorem clear_rq (w : World) (g o n c : Nat) (ty : TypeId) (hn : 0 < n) (ht : w.there g o (n * 9)) :
    ∃ Z : List Value, Z.length = n * 9 ∧ (Builtin.clear_ #[30] ty #[.slice (some ⟨g, o, none⟩) n c]).run Tryz.prog w = .ok (.tuple #[]) (w.setCells g o Z) := by
  refine ⟨(Builtin.zeroCells zeroR.cells n).toList, by simp [Builtin.zeroCells, zeroR, Req.cells], ?_⟩
  have hl : (Builtin.zeroCells zeroR.cells n).toList.length = n * 9 := by simp [Builtin.zeroCells, zeroR, Req.cells]
  have hst := run_storeCells_cells (P := Tryz.prog) g o (Builtin.zeroCells zeroR.cells n).toList 0 w (fun j hj => by simpa using (ht j (by omega)).1) (fun j hj => by simpa using (ht j (by omega)).2) (by
    intro v hv
    have hv' : v ∈ zeroR.cells.toList := by
      simp only [Builtin.zeroCells, Array.toList_map, List.mem_map, Array.toList_range] at hv
      obtain ⟨k, hk, rfl⟩ := hv
      rw [getElem!_pos zeroR.cells _ (Nat.mod_lt _ (by decide))]
      simp
    exact req_one zeroR v hv')
  simp only [Nat.add_zero] at hst
  obtain ⟨m, rfl⟩ : ∃ m, n = m + 1 := ⟨n - 1, by omega⟩
  have hz : ∀ w, (zeroValue 39).run Tryz.prog w = .ok zeroR.val w := Tryz.zeroValue39
  have hzc : zeroR.val.cells = zeroR.cells := rfl
  simp [Builtin.clear_, run_underlying Tryz.underlying30, hz, hzc, hst]
/-- What stands behind DeleteFunc. -/
def DelPost (B _bx _mb _n : Nat) (K : List (Int × Int)) (L : List Req) (w : World) (e : Ending) (w' : World) : Prop :=
  ∃ v, e = .returned v ∧ w'.ownsRow B 39 9 v (keepR K L).length (reqCells (keepR K L)) ∧ RowKit.Below B w w'
set_option maxHeartbeats 4000000 in
set_option maxRecDepth 100000 in
theorem delete_any (B bx mb n : Nat) (K : List (Int × Int)) (g cap : Nat) (L : List Req) (w : World) (hrow : w.ownsRow B 39 9 (.slice (some ⟨g, 0, none⟩) L.length cap) L.length (reqCells L)) (hfit : ∀ r ∈ L, r.fits)
    (hgm : g ≠ mb) (hgx : g ≠ bx) (hbx : bx ≠ mb) (hBm : B ≤ mb) (hBw : B ≤ w.heap.size) (hst : ActSt bx mb n K w) (hn : n + L.length ≤ 10000000) :
    Calls Tryz.prog 39 #[.slice (some ⟨g, 0, none⟩) L.length cap, .func (.func 40) #[] #[.pointer (some ⟨bx, 0, none⟩)]] w (DelPost B bx mb n K L w) := by
  obtain ⟨hBg, hlc, hcm⟩ : B ≤ g ∧ L.length ≤ cap ∧ cap ≤ maxLen := by
    rcases hrow.2 with ⟨h, _⟩ | ⟨g', cap', cur, h', hb, _, h1, h2, _⟩
    · cases h
    · simp only [Value.slice.injEq, Option.some.injEq, Addr.mk.injEq, and_true, true_and] at h'
      obtain ⟨rfl, rfl⟩ := h'
      exact ⟨hb, h1, h2⟩
  have hcap : cap ≤ 9223372036854775807 := by unfold maxLen at hcm; omega
  have hL : ∀ k r, L[k]? = some r → ReqAt w g (0 + k * 9) r := by
    intro k r hk
    have hk1 := (List.getElem?_eq_some_iff.1 hk).1
    obtain ⟨b', o', c', hv, _, _, hat⟩ := (reqsIn_own hrow).at_ (by omega)
    simp only [Value.slice.injEq, Option.some.injEq, Addr.mk.injEq, and_true, true_and] at hv
    obtain ⟨⟨rfl, rfl⟩, rfl⟩ := hv
    exact hat k r hk
  have ci := index_any bx mb n K g 0 cap L w hL hfit hgm hbx hst hn hlc
  have HF := Lib.hid hfit
  have hlt63 : L.length ≤ 10000000 := by omega
  clear hL hfit hst
  go_enter Tryz.func39, Tryz.ntmps39
  go_wp2_with fail
  refine ci.mono ?_
  rintro _ w1 ⟨hg1, k, hk, hkeep, h⟩
  have hrow1 := hrow.kept hg1 (.inr (by simpa [Value.ownBlock] using hgm))
  have hB1 : RowKit.Below B w w1 := (Below.refl B w).grown hg1 hBw (fun q hq => by cases hq; exact hBm)
  clear ci hrow hg1
  rcases h with ⟨rfl, rfl, hst1⟩ | ⟨r, hr, hgone, rfl, hst1⟩
  · rw [List.take_length] at hkeep
    go_wp2_with fail
    go_ret
    refine ⟨_, rfl, ?_, hB1⟩
    rw [hkeep]
    exact hrow1
  · have hkl := (List.getElem?_eq_some_iff.1 hr).1
    have h0 : Hid ((keepR K (L.take (k + 1))).length = k ∧ L.take k = keepR K (L.take (k + 1))) := Lib.hid (by
      rw [take_snoc hr, keepR_snoc, hgone, hkeep]; simp; omega)
    clear hgone hr hkeep
    have hneg : ¬ ((k : Int) = -1) := by omega
    have hkb : ((k : Int) == -1) = false := by simp
    go_wp2_with fail
    go_loopw [5, 6] (fun a b wr => ∃ (i j : Nat) (X : List Req), a = .int .i64 i ∧ b = .int .i64 j ∧ i < j ∧ j ≤ L.length ∧ Hid (i = (keepR K (L.take j)).length ∧ X.length = L.length ∧ X.take i = keepR K (L.take j) ∧ X.drop j = L.drop j) ∧
      Hid (wr.ownsRow B 39 9 (.slice (some ⟨g, 0, none⟩) L.length cap) L.length (reqCells X)) ∧ Hid (ActSt bx mb (n + j) (stK K (L.take j)) wr) ∧ RowKit.Below B w wr) (fun _ b _ => L.length - (RowKit.intOf b).toNat)
    case atStart => exact ⟨k, k + 1, L, rfl, by go_num, by omega, by omega, Lib.hid ⟨h0.out.1.symm, rfl, h0.out.2, rfl⟩, Lib.hid hrow1, Lib.hid hst1, hB1⟩
    case round =>
      obtain ⟨i, j, X, rfl, rfl, hij, hj, HI, HR, HS, hB⟩ := hrel
      have hBs := hB.size
      by_cases hlt : j < L.length
      · have hx := List.getElem?_eq_getElem hlt
        have hxm := HF.out _ (List.getElem_mem hlt)
        generalize L[j] = x at hx hxm
        have HX := Lib.hid hx
        have hatk : ReqAt wr g (j * 9) x := by
          have hxX : X[j]? = some x := by
            have h1 := congrArg (fun l => l[0]?) HI.out.2.2.2
            simp only [List.getElem?_drop, Nat.add_zero] at h1
            rw [h1]; exact hx
          obtain ⟨b', o', c', hv, _, _, hat⟩ := (reqsIn_own HR.out).at_ (by rw [HI.out.2.1]; omega)
          simp only [Value.slice.injEq, Option.some.injEq, Addr.mk.injEq, and_true] at hv
          obtain ⟨⟨rfl, rfl⟩, _⟩ := hv
          have := hat j x hxX
          rwa [Nat.zero_add] at this
        have HG1 : Hid (wr.grownBy (wr.alloc (.cells x.cells 39)) none) := Lib.hid (World.grownBy_alloc _ _ _)
        have HA1 : Hid (ActSt bx mb (n + j) (stK K (L.take j)) (wr.alloc (.cells x.cells 39))) := Lib.hid (HS.out.grown HG1.out (by simp) (by simp))
        have HR1 : Hid ((wr.alloc (.cells x.cells 39)).ownsRow B 39 9 (.slice (some ⟨g, 0, none⟩) L.length cap) L.length (reqCells X)) := Lib.hid (HR.out.alloc _)
        have hB2 : RowKit.Below B w (wr.alloc (.cells x.cells 39)) := hB.alloc (Nat.le_trans hBw hBs) _
        have hbox : ReqAt (wr.alloc (.cells x.cells 39)) wr.heap.size 0 x := (ReqBox.new wr x).at_
        have hmb : mb < wr.heap.size := by obtain ⟨D, h1, _⟩ := HS.out.map; exact h1.lt
        have hgw : g < wr.heap.size := (HR.out.lt g rfl).2
        have cg := gone_st bx mb (n + j) _ x (wr.alloc (.cells x.cells 39)) hbx hxm (by unfold maxLen; omega) HA1.out
        have HN := Lib.hid (stK_snoc K (L.take j) x)
        have HM := Lib.hid (keepR_snoc K (L.take j) x)
        rw [← take_snoc hx] at HN HM
        generalize goneR (stK K (L.take j)) x = G at cg HM
        clear hx hrow1 hB1 hst1
        go_wp2_with (refine wpList_load_mid rfl 39 (.tmp 24) rfl _ _ rfl x.cells.toList _ hatk Tryz.underlying39 rfl (by kernel_rfl) ?_)
        refine cg.mono ?_
        rintro _ w2 ⟨rfl, hg2, hs2⟩
        rw [← HN.out] at hs2
        have HS2 : Hid (ActSt bx mb (n + (j + 1)) (stK K (L.take (j + 1))) w2) := Lib.hid hs2
        have hB3 : RowKit.Below B w w2 := hB2.grown hg2 (Nat.le_trans hBw hB2.size) (fun q hq => by cases hq; exact hBm)
        have HR2 := Lib.hid (HR1.out.kept hg2 (.inr (by simpa [Value.ownBlock] using hgm)))
        have hbox2 : ReqAt w2 wr.heap.size 0 x := hbox.grown hg2 (by simp; omega)
        have hdr : X.drop (j + 1) = L.drop (j + 1) := by
          have := congrArg (List.drop 1) HI.out.2.2.2
          simpa [List.drop_drop, Nat.add_comm] using this
        have HDR := Lib.hid hdr
        clear hs2 hg2 cg hatk hxm hbox hdr hB2
        cases G
        · have hthere : w2.there g (i * 9) 9 := row_there HR2.out (i * 9) 9 (by omega)
          have hset := row_setCells x.cells.toList w2 (reqCells X) (i * 9) HR2.out
          rw [writeAt_req X i x (by rw [HI.out.2.1]; omega)] at hset
          have HR3 := Lib.hid hset.1
          have hB4 : RowKit.Below B w (w2.setCells g (i * 9) x.cells.toList) := hB3.grown hset.2 (Nat.le_trans hBw hB3.size) (fun q hq => by cases hq; exact hBg)
          have HS4 := Lib.hid (HS2.out.grown hset.2 (by simpa using fun e => hgx e.symm) (by simpa using fun e => hgm e.symm))
          have HI4 : Hid (i + 1 = (keepR K (L.take (j + 1))).length ∧ (X.set i x).length = L.length ∧ (X.set i x).take (i + 1) = keepR K (L.take (j + 1)) ∧ (X.set i x).drop (j + 1) = L.drop (j + 1)) := Lib.hid (by
            obtain ⟨i1, i2, i3, i4⟩ := HI.out
            rw [HM.out]
            refine ⟨by simp; omega, by simpa using i2, ?_, by rw [List.drop_set_of_lt (by omega)]; exact HDR.out⟩
            rw [List.take_add_one, List.take_set_of_le (Nat.le_refl _), List.getElem?_set_self (by omega), i3]
            rfl)
          have hall : x.cells.all (·.oneCell') = true := by simp [Req.cells, Value.oneCell']
          clear hset
          go_wp2_with (first
            | ((with_reducible refine wpList_load_mid (op := ⟨some 32, _, _, _, _, _⟩) ?_ 39 (.tmp 7) ?_ wr.heap.size 0 ?_ x.cells.toList _ ?_ Tryz.underlying39 ?_ ?_ ?_); rfl; rfl; rfl; exact hbox2; rfl; kernel_rfl)
            | ((with_reducible refine wpList_store_mid (op := ⟨none, _, _, _, _, _⟩) ?_ 39 (.tmp 33) (.tmp 32) ?_ g (i * 9) x.cells ?_ ?_ ?_ ?_ ?_ ?_); rfl; rfl; rfl; rfl; exact hthere; kernel_rfl; exact hall))
          go_roundw
          case rel => exact ⟨i + 1, j + 1, X.set i x, by go_num, by go_num, by omega, by omega, HI4, HR3, HS4, hB4⟩
          case measure => simp [RowKit.intOf]; omega
        · have HI4 : Hid (i = (keepR K (L.take (j + 1))).length ∧ X.length = L.length ∧ X.take i = keepR K (L.take (j + 1)) ∧ X.drop (j + 1) = L.drop (j + 1)) := Lib.hid (by
            obtain ⟨i1, i2, i3, i4⟩ := HI.out
            rw [HM.out]
            exact ⟨by simpa using i1, i2, by simpa using i3, HDR.out⟩)
          go_wp2_with fail
          go_roundw
          case rel => exact ⟨i, j + 1, X, rfl, by go_num, by omega, by omega, HI4, HR2, HS2, hB3⟩
          case measure => simp [RowKit.intOf]; omega
      · obtain rfl : j = L.length := by omega
        obtain ⟨Z, hZ, hclr⟩ := clear_rq wr g (i * 9) (L.length - i) (cap - i) 0 (by omega) (row_there HR.out _ _ (by omega))
        have hset := row_setCells Z wr (reqCells X) (i * 9) HR.out
        obtain ⟨i1, i2, i3, i4⟩ := HI.out
        have hpre := row_prefix hset.1 i (by omega)
        rw [writeAt_eq _ _ _ (by rw [reqCells_len, hZ, i2]; omega), List.append_assoc, List.take_append_of_le_length (by simp [reqCells_len, i2]; omega), List.take_take, Nat.min_self] at hpre
        have hcut : (reqCells X).take (i * 9) = reqCells (keepR K L) := by
          rw [List.take_length] at i3
          rw [← i3]
          conv => lhs; rw [← List.take_append_drop i X]
          rw [reqCells_app, List.take_append_of_le_length (by rw [reqCells_len]; simp; omega), List.take_of_length_le (by rw [reqCells_len]; simp; omega)]
        have hB4 : RowKit.Below B w (wr.setCells g (i * 9) Z) := hB.grown hset.2 (Nat.le_trans hBw hBs) (fun q hq => by cases hq; exact hBg)
        rw [hcut] at hpre
        have HP := Lib.hid hpre
        have hiL : Hid (i = (keepR K L).length) := Lib.hid (by rw [List.take_length] at i1; exact i1)
        clear hset hpre hrow1 hst1 hB1 i1 i2 i3 i4 hcut
        go_wp2_with fail
        go_ret
        exact ⟨_, rfl, by rw [← hiL.out]; exact HP.out, hB4⟩
end Go.Proofs.YteopjiedjnaeiaaGreat
namespace Go.Proofs.YteopjiedjnaeiaaGreat
open Go Go.Proofs Go.RowKit Go.Maps Go.Sort Go.Lib
attribute [local go_sem] Req.cells

/-- The numbers of the cancellations. -/
def addK (K : List (Int × Int)) (r : Req) : List (Int × Int) := if r.cancel then (r.server, r.seq) :: K else K
def canK (M : List Req) : List (Int × Int) := M.foldl addK []
theorem canK_snoc (M : List Req) (r : Req) : canK (M ++ [r]) = addK (canK M) r := by unfold canK; rw [List.foldl_append]; rfl
/-- What is active of a set. -/
def actR (M : List Req) : List Req := keepR (canK M) M
set_option maxHeartbeats 1000000 in
set_option maxRecDepth 100000 in
theorem index_nil (f : Value) (w : World) : Calls Tryz.prog 54 #[.slice none 0 0, f] w fun e w' => e = .returned (.int .i64 (-1)) ∧ w' = w := by
  go_enter Tryz.func54, Tryz.ntmps54
  go_wp2_with fail
  refine wp_loop_rounds 1 ?_
  rw [rounds_succ]
  go_wp2_with fail
  go_ret
  exact ⟨rfl, rfl⟩
set_option maxHeartbeats 1000000 in
set_option maxRecDepth 100000 in
theorem delete_nil (f : Value) (w : World) : Calls Tryz.prog 39 #[.slice none 0 0, f] w fun e w' => e = .returned (.slice none 0 0) ∧ w' = w := by
  have ci := index_nil f w
  go_enter Tryz.func39, Tryz.ntmps39
  go_wp2_with fail
  refine ci.mono ?_
  rintro _ w1 ⟨rfl, rfl⟩
  go_wp2_with fail
  go_ret
  exact ⟨rfl, rfl⟩
/-- What stands behind Active. -/
def ActPost (L : List Req) (w : World) (e : Ending) (w' : World) : Prop :=
  ∃ v M, e = .returned v ∧ IsSet M L ∧ w'.ownsRow w.heap.size 39 9 v (actR M).length (reqCells (actR M)) ∧ RowKit.Below w.heap.size w w'
theorem isSet_len {M L : List Req} (h : IsSet M L) : M.length ≤ L.length :=
  nodup_le M L (h.1.imp fun {a b} hlt e => by subst e; exact cmpR_irr _ hlt) fun r hr => (h.2 r).1 hr
set_option maxHeartbeats 4000000 in
set_option maxRecDepth 100000 in
theorem active_any (v : Value) (L : List Req) (w : World) (hv : ReqsIn w v L) (hl : L.length ≤ 1000000) (hfit : ∀ r ∈ L, r.fits) :
    Calls Tryz.prog 21 #[v] w (ActPost L w) := by
  have cj := join_any v (.slice none 0 0) L [] w hv (.inl ⟨rfl, rfl⟩) (by simpa using hl) (by simpa using fun r hr => (hfit r hr).1)
  rw [List.append_nil] at cj
  obtain ⟨vb, vc, rfl, _⟩ := hv.form
  clear hv
  have hmm := @run_makeMap Tryz.prog
  go_enter Tryz.func21, Tryz.ntmps21
  go_wp2_with fail
  refine cj.mono ?_
  rintro _ w1 ⟨v1, M, rfl, hM, hrow, hb1⟩
  have hMl := isSet_len hM
  have hMf : ∀ r ∈ M, r.fits := fun r hr => hfit r ((hM.2 r).1 hr)
  have HM := Lib.hid hM
  have hb1s := hb1.size
  obtain ⟨base, c, rfl, hlc⟩ := (reqsIn_own hrow).form
  clear cj hM hfit
  have hb2 : RowKit.Below w1.heap.size w1 ((w1.alloc (.map #[] 0)).alloc (.cells #[.map (some w1.heap.size)] 91)) := ((Below.refl _ w1).alloc (Nat.le_refl _) _).alloc (by simp) _
  have hst0 : ActSt (w1.heap.size + 1) w1.heap.size 0 [] ((w1.alloc (.map #[] 0)).alloc (.cells #[.map (some w1.heap.size)] 91)) :=
    ⟨Lib.cell_of_heap (new_two _ _ _) 0, .map [], (World.ownsMap_made w1 _ _ _).alloc _, fun s q _ _ => by simp [DataW.atKey]⟩
  have HR := Lib.hid hrow
  have HF := Lib.hid hMf
  clear hMf hrow
  go_wp2_with fail
  go_loopw [12] (fun i wr => ∃ k : Nat, k ≤ M.length ∧ i = .int .i64 k ∧ Hid (ActSt (w1.heap.size + 1) w1.heap.size k (canK (M.take k)) wr) ∧ RowKit.Below w1.heap.size w1 wr) (fun i _ => M.length - (RowKit.intOf i).toNat)
  case atStart => exact ⟨0, Nat.zero_le _, rfl, Lib.hid hst0, hb2⟩
  case round =>
    obtain ⟨k, hk, rfl, HS, hB⟩ := hrel
    have hBs := hB.size
    by_cases hlt : k < M.length
    · obtain ⟨b, o, c', hv, _, hbl, hat⟩ := (reqsIn_own HR.out).at_ (by omega)
      have hx := List.getElem?_eq_getElem hlt
      have hxm := (HF.out _ (List.getElem_mem hlt)).1
      generalize M[k] = x at hx hxm
      have hatk := (hat k x hx).below hB hbl
      injection hv with e1 e2 e3
      subst e1
      have HX := Lib.hid hx
      obtain ⟨D, hown, hD⟩ := HS.out.map
      have hbc := HS.out.cell
      have hbxl : w1.heap.size + 1 < wr.heap.size := World.block_lt_of_cell? wr _ hbc
      obtain ⟨x0, x1, x2, x3, x4, x5, x6, x7, x8⟩ := x
      have hD' := hD.put hown.isMap hxm.1 hxm.2.1
      have hkn := key_num x0 x1 hxm.1 hxm.2.1
      have hn63 : k < maxLen := by unfold maxLen; omega
      have HD := Lib.hid hD
      clear hx hat e2 e3 hst0 hb2 hxm hD
      cases x2
      · have HC : Hid (canK (M.take (k + 1)) = canK (M.take k)) := Lib.hid (by rw [take_snoc HX.out, canK_snoc]; rfl)
        have hown1 := hown.alloc (.cells (Req.cells ⟨x0, x1, false, x3, x4, x5, x6, x7, x8⟩) 39)
        have hb3 : RowKit.Below w1.heap.size w1 (wr.alloc (.cells (Req.cells ⟨x0, x1, false, x3, x4, x5, x6, x7, x8⟩) 39)) := hB.alloc hBs _
        have HS3 : Hid (ActSt (w1.heap.size + 1) w1.heap.size (k + 1) (canK (M.take (k + 1))) (wr.alloc (.cells (Req.cells ⟨x0, x1, false, x3, x4, x5, x6, x7, x8⟩) 39))) := Lib.hid (by
          rw [HC.out]
          exact ⟨(World.grownBy_alloc wr _ none).cell hbc (by simp), D, hown1.mono (by omega), HD.out⟩)
        clear hown1 hown hD'
        go_wp2_with (refine wpList_load_mid rfl 39 (.tmp 14) rfl _ _ rfl (Req.cells ⟨x0, x1, false, x3, x4, x5, x6, x7, x8⟩).toList _ hatk Tryz.underlying39 rfl (by kernel_rfl) ?_)
        go_roundw
        case rel => exact ⟨k + 1, by omega, by go_num, HS3, hb3⟩
        case measure => simp [RowKit.intOf]; omega
      · have HC : Hid (canK (M.take (k + 1)) = (x0, x1) :: canK (M.take k)) := Lib.hid (by rw [take_snoc HX.out, canK_snoc]; rfl)
        have hown1 := hown.alloc (.cells (Req.cells ⟨x0, x1, true, x3, x4, x5, x6, x7, x8⟩) 39)
        have hb3 : RowKit.Below w1.heap.size w1 (wr.alloc (.cells (Req.cells ⟨x0, x1, true, x3, x4, x5, x6, x7, x8⟩) 39)) := hB.alloc hBs _
        have hbc1 : (wr.alloc (.cells (Req.cells ⟨x0, x1, true, x3, x4, x5, x6, x7, x8⟩) 39)).cell? ⟨w1.heap.size + 1, 0, none⟩ = some (.map (some w1.heap.size)) := (World.grownBy_alloc wr _ none).cell hbc (by simp)
        have HD' := Lib.hid hD'
        clear hown hD'
        go_wp2_with (first
          | (refine wpList_load_mid rfl 39 (.tmp 14) rfl _ _ rfl (Req.cells ⟨x0, x1, true, x3, x4, x5, x6, x7, x8⟩).toList _ hatk Tryz.underlying39 rfl (by kernel_rfl) ?_)
          | (at_mapUpdate; refine wpList_mapUpdate_own _ rfl _ _ _ 91 rfl 93 4 ky_keyed Tryz.underlying91 _ w1.heap.size k D rfl hown1 hn63 _ (.bool true) (litK x0 x1) rfl rfl hkn (.lit (.bool true)) [] (plainElem_bool Tryz.underlying4 true) ?_; intro w4 hown4 hg4))
        have hb4 := hb3.grown hg4 hb3.size (fun q hq => by cases hq; exact Nat.le_refl _)
        have HS4 : Hid (ActSt (w1.heap.size + 1) w1.heap.size (k + 1) (canK (M.take (k + 1))) w4) := Lib.hid (by
          rw [HC.out]
          exact ⟨hg4.cell hbc1 (by simp), _, hown4, HD'.out⟩)
        clear hg4 hown4 hown1 hbc1 hbc
        go_wp2_with fail
        go_roundw
        case rel => exact ⟨k + 1, by omega, by go_num, HS4, hb4⟩
        case measure => simp [RowKit.intOf]; omega
    · obtain rfl : k = M.length := by omega
      have hrw := HR.out.kept (below_grows (row := none) hB) (by cases (Value.slice base M.length c).ownBlock <;> simp)
      have hBw := hb1.trans (hB.mono hb1s)
      have hgl : ∀ q, (Value.slice base M.length c).ownBlock = some q → q < w1.heap.size := fun q hq => (HR.out.lt q hq).2
      have hst := HS.out
      rw [List.take_length] at hst
      rcases hrw.2 with ⟨hnil, h0⟩ | ⟨g, cap, cur, hv, hbg, _⟩
      · injection hnil with e1 e2 e3
        subst e1 e3
        have hM0 : M = [] := List.eq_nil_of_length_eq_zero h0
        have cd := delete_nil (.func (.func 40) #[] #[.pointer (some ⟨w1.heap.size + 1, 0, none⟩)]) wr
        subst hM0
        clear hst HS hrw hb2 hst0 hgl
        go_wp2_with fail
        refine cd.mono ?_
        rintro _ w5 ⟨rfl, rfl⟩
        go_wp2_with fail
        go_ret
        exact ⟨_, [], rfl, HM.out, World.ownsRow_nil _ _ _ _, hBw⟩
      · injection hv with e1 e2 e3
        subst e1 e3
        have hgl' := hgl g rfl
        have cd := delete_any w.heap.size (w1.heap.size + 1) w1.heap.size M.length (canK M) g c M wr hrw HF.out (by omega) (by omega) (by omega) hb1s hBw.size hst (by omega)
        clear hst HS hrw hb2 hst0 hgl
        go_wp2_with fail
        refine cd.mono ?_
        rintro _ w5 ⟨v5, rfl, hrow5, hb5⟩
        go_wp2_with fail
        go_ret
        exact ⟨v5, M, rfl, HM.out, hrow5, hBw.trans hb5⟩
end Go.Proofs.YteopjiedjnaeiaaGreat
