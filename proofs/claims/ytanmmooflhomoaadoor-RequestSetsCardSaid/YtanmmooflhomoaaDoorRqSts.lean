/- The law RequestSets, walked: it returns true. -/
import Derived.Test.YtanmmooflhomoaaDoorRqStP
import Derived.Test.YtanmmooflhomoaaDoorRqMis
namespace Go.Proofs.YtanmmooflhomoaaDoor
open Go Go.Proofs Go.RowKit Go.Sort Go.Lib
attribute [local go_sem] Req.cells
attribute [local go_sem ↓] req_eql_cells req_neq_cells

theorem join_to {A B L O : List Req} (hO : IsSet O L) (h : ∀ r, r ∈ A ++ B ↔ r ∈ L) (hs : ∀ r ∈ A ++ B, r.Small) (hl : A.length + B.length ≤ 1000000) (a b : Value) (w : World) (ha : ReqsIn w a A) (hb : ReqsIn w b B) :
    Calls Tryd.prog 13 #[a, b] w (Ret O w) := join_at (hO.congr fun r => (h r).symm) hs hl a b w ha hb
theorem same_ne {A B : List Req} (h : A ≠ B) (hl : A.length ≤ 1000000) (a b : Value) (w : World) (ha : ReqsIn w a A) (hb : ReqsIn w b B) :
    Calls Tryd.prog 10 #[a, b] w fun x w' => x = .returned (.bool false) ∧ RowKit.Below w.heap.size w w' := by
  refine (same_any a b A B w ha hb hl).mono ?_
  rintro x w' ⟨t, rfl, ht, hb⟩
  have : t = false := by rw [Bool.eq_false_iff]; exact fun e => h (ht.1 e)
  rw [this]
  exact ⟨rfl, hb⟩
theorem digest_to {A O : List Req} (hO : IsSet O A) (hs : ∀ r ∈ A, r.Small) (hl : A.length ≤ 400) (S : ByteArray) (hS : S = ⟨(dg (encL O)).toArray⟩) (a : Value) (w : World) (ha : ReqsIn w a A) (ht : Tabs w) :
    Calls Tryd.prog 19 #[a] w fun x w' => x = .returned (.string S) ∧ RowKit.Below w.heap.size w w' := by
  refine (digest_any a A w ha hl (fun r hr => (hs r hr).wf) (fun r hr => (hs r hr).ok) ht).mono ?_
  rintro x w' ⟨M, hM, rfl, hb⟩
  obtain rfl := hM.same hO
  exact ⟨by rw [hS], hb⟩
theorem encode_to {A : List Req} (hs : ∀ r ∈ A, r.Small) (hl : A.length ≤ 1000) (S : ByteArray) (hS : S = ⟨(encL A).toArray⟩) (a : Value) (w : World) (ha : ReqsIn w a A) (ht : Tabs w) :
    Calls Tryd.prog 20 #[a] w fun x w' => x = .returned (.string S) ∧ RowKit.Below w.heap.size w w' := by
  refine (encode_any a A w ha hl (fun r hr => (hs r hr).ok) (fun r hr => ⟨by have := (hs r hr).code; omega, by have := (hs r hr).give; omega⟩) ht).mono ?_
  rintro x w' ⟨rfl, hb⟩
  exact ⟨by rw [hS], hb⟩
theorem enc_ne {X Y : List Req} (h : X ≠ Y) : ((⟨(encL X).toArray⟩ : ByteArray).toList == (⟨(encL Y).toArray⟩ : ByteArray).toList) = false := by
  rw [beq_eq_false_iff_ne, ne_eq, req_ba]
  intro e
  have e2 := congrArg (fun b : ByteArray => b.data.toList) e
  exact h (encL_inj (by simpa using e2))
theorem mem_turn (A : List Req) (k : Nat) (r : Req) : r ∈ A.drop k ++ A.take k ++ A ↔ r ∈ A := by
  simp only [List.mem_append]
  exact ⟨fun h => h.elim (fun h => h.elim List.mem_of_mem_drop List.mem_of_mem_take) id, .inr⟩
theorem sorted_at {M L : List Req} (h : IsSet M L) {i : Nat} {x y : Req} (hi : 0 < i) (hx : M[i - 1]? = some x) (hy : M[i]? = some y) : cmpR x y < 0 := by
  obtain ⟨h1, rfl⟩ := List.getElem?_eq_some_iff.1 hx
  obtain ⟨h2, rfl⟩ := List.getElem?_eq_some_iff.1 hy
  exact List.pairwise_iff_getElem.1 h.1 (i - 1) i h1 h2 (by omega)
theorem mem_snoc {L : List Req} {j : Nat} {y r : Req} {c : Bool} (hy : L[j]? = some y) (h : c = true ↔ r ∈ L.take j) : (c || eqReq y r) = true ↔ r ∈ L.take (j + 1) := by
  rw [List.take_add_one, hy, Bool.or_eq_true, h, eqReq_iff]
  simp only [Option.toList_some, List.mem_append, List.mem_singleton]
  exact or_congr Iff.rfl eq_comm
theorem join_nil {A O : List Req} (hO : IsSet O A) (hs : ∀ r ∈ A, r.Small) (hl : A.length ≤ 1000000) (a : Value) (w : World) (ha : ReqsIn w a A) :
    Calls Tryd.prog 13 #[a, .slice none 0 0] w (Ret O w) := join_to (B := []) hO (fun r => by rw [List.append_nil]) (by rw [List.append_nil]; exact hs) (by simpa using hl) a _ w ha (.inl ⟨rfl, rfl⟩)
set_option maxHeartbeats 16000000 in
set_option maxRecDepth 100000 in
theorem sets_law (A0 A1 A2 : Option Addr) (n0 n1 n2 c0 c1 c2 : Nat) (q0 q1 q2 : Int) (tn : Int) (w : World) (h0 : IntssIn w.heap.size A0 n0 w) (h1 : IntssIn w.heap.size A1 n1 w) (h2 : IntssIn w.heap.size A2 n2 w) (i0 : I64 q0) (i1 : I64 q1) (i2 : I64 q2) (htn : 0 ≤ tn ∧ tn ≤ 255) (ht : Tabs w) :
    Calls Tryd.prog 6 #[.agg #[.slice A0 n0 c0, .slice A1 n1 c1, .slice A2 n2 c2, .int .i64 q0, .int .i64 q1, .int .i64 q2], .int .u8 tn] w fun x w' => x = .returned (.bool true) ∧ RowKit.Below w.heap.size w w' := by
  have H0 := Lib.hid h0
  have H1 := Lib.hid h1
  have H2 := Lib.hid h2
  have HT := Lib.hid ht
  clear h0 h1 h2 ht
  obtain ⟨t, rfl⟩ := Int.eq_ofNat_of_zero_le htn.1
  have ht255 : t ≤ 255 := by omega
  clear htn
  have hb0 : RowKit.Below w.heap.size w (w.alloc (.cells #[.slice A0 n0 c0, .slice A1 n1 c1, .slice A2 n2 c2, .int .i64 q0, .int .i64 q1, .int .i64 q2] 25)) := below_alloc1 _ _
  have hc0 : ∀ j, (w.alloc (.cells #[.slice A0 n0 c0, .slice A1 n1 c1, .slice A2 n2 c2, .int .i64 q0, .int .i64 q1, .int .i64 q2] 25)).cell? ⟨w.heap.size, j, none⟩ = (#[.slice A0 n0 c0, .slice A1 n1 c1, .slice A2 n2 c2, .int .i64 q0, .int .i64 q1, .int .i64 q2] : Array Value)[j]? := fun j => Lib.cell_of_heap (heap_alloc_new w _) j
  have hl0 : w.heap.size < (w.alloc (.cells #[.slice A0 n0 c0, .slice A1 n1 c1, .slice A2 n2 c2, .int .i64 q0, .int .i64 q1, .int .i64 q2] 25)).heap.size := by simp
  go_enter Tryd.func6, Tryd.ntmps6
  go_wp2_with fail
  generalize w.alloc _ = w0 at hb0 hc0 hl0 ⊢
  refine (sanity_any _ (HT.out.below hb0)).mono ?_
  rintro _ w1 ⟨rfl, hb⟩
  have hc1 := old_keep hl0 hb hc0
  have hb1 := below_next hb0 hb
  clear hb hc0 hb0 hl0
  go_wp2_with fail
  refine (case_any A0 A1 A2 n0 n1 n2 c0 c1 c2 q0 q1 q2 w1 (H0.out.at_ hb1) (H1.out.at_ hb1) (H2.out.at_ hb1) i0 i1 i2).mono ?_
  rintro _ w2 ⟨va, vb, vd, A, B, D, rfl, hC⟩
  have ra := reqsIn_own hC.a
  have rb := hC.b
  have rd := reqsIn_own hC.d
  have hb2 := below_next hb1 hC.below
  have la := hC.la
  have lb := hC.lb
  have ld := hC.ld
  have SA := Lib.hid hC.sa
  have SB := Lib.hid hC.sb
  have SD := Lib.hid hC.sd
  clear hC hc1 hb1
  obtain ⟨sa, ca, hva, _⟩ := ra.form
  obtain ⟨sb, cb, hvb, _⟩ := rb.form
  obtain ⟨sd, cd, hvd, _⟩ := rd.form
  subst hva hvb hvd
  -- one, two, three
  go_wp2_with fail
  refine (join_is (small_app SA.out SB.out) (by omega) _ _ _ ra rb).mono ?_
  rintro _ w3 ⟨v31, J1, rfl, hJ1, hl1, r31, hb⟩
  have sJ1 := hJ1.small (small_app SA.out SB.out)
  have lJ1 : J1.length ≤ 33 := by simp at hl1; omega
  replace ra := ra.below hb
  replace rb := rb.below hb
  replace rd := rd.below hb
  replace hb2 := below_next hb2 hb
  have HJ1 := Lib.hid hJ1
  have SJ1 := Lib.hid sJ1
  clear hb hl1 hJ1 sJ1
  go_wp2_with fail
  refine (join_is (small_app SJ1.out SD.out) (by omega) _ _ _ r31 rd).mono ?_
  rintro _ w4 ⟨v9, O, rfl, hO1, hlO, r9, hb⟩
  have hO : IsSet O (A ++ B ++ D) := hO1.congr fun r => by rw [List.mem_append, List.mem_append, HJ1.out.2 r]
  have HO := Lib.hid hO
  have SO := Lib.hid (hO.small (small_app (small_app SA.out SB.out) SD.out))
  have lO : O.length ≤ 49 := by simp at hlO; omega
  have HLO := Lib.hid (put_len hO)
  replace ra := ra.below hb
  replace rb := rb.below hb
  replace rd := rd.below hb
  replace hb2 := below_next hb2 hb
  clear hb hO1 hlO hO r31
  go_wp2_with fail
  refine (join_to HJ1.out (fun r => by rw [List.mem_append, List.mem_append]; exact Or.comm) (small_app SB.out SA.out) (by omega) _ _ _ rb ra).mono ?_
  rintro _ w5 ⟨v37, rfl, r37, hb⟩
  replace ra := ra.below hb
  replace rb := rb.below hb
  replace rd := rd.below hb
  replace r9 := r9.below hb
  replace hb2 := below_next hb2 hb
  clear hb
  go_wp2_with fail
  refine (join_to HO.out (fun r => by rw [List.mem_append, List.mem_append, HJ1.out.2 r]; exact Or.comm) (small_app SD.out SJ1.out) (by omega) _ _ _ rd r37).mono ?_
  rintro _ w6 ⟨v10, rfl, r10, hb⟩
  replace ra := ra.below hb
  replace rb := rb.below hb
  replace rd := rd.below hb
  replace r9 := r9.below hb
  replace hb2 := below_next hb2 hb
  clear hb r37
  go_wp2_with fail
  refine (join_is (small_app SA.out SD.out) (by omega) _ _ _ ra rd).mono ?_
  rintro _ w7 ⟨v41, J3, rfl, hJ3, hl3, r41, hb⟩
  have SJ3 := Lib.hid (hJ3.small (small_app SA.out SD.out))
  have lJ3 : J3.length ≤ 33 := by simp at hl3; omega
  have HJ3 := Lib.hid hJ3
  replace ra := ra.below hb
  replace rb := rb.below hb
  replace r9 := r9.below hb
  replace r10 := r10.below hb
  replace hb2 := below_next hb2 hb
  clear hb hJ3 hl3 rd
  go_wp2_with fail
  refine (join_to HO.out (fun r => by
    rw [List.mem_append, HO.out.2 r, List.mem_append, List.mem_append]
    by_cases h : r ∈ B <;> simp [h]) (small_app SB.out SO.out) (by omega) _ _ _ rb r9).mono ?_
  rintro _ w8 ⟨v44, rfl, r44, hb⟩
  replace ra := ra.below hb
  replace rb := rb.below hb
  replace r9 := r9.below hb
  replace r10 := r10.below hb
  replace r41 := r41.below hb
  replace hb2 := below_next hb2 hb
  clear hb
  go_wp2_with fail
  refine (join_to HO.out (fun r => by
    rw [List.mem_append, HO.out.2 r, HJ3.out.2 r, List.mem_append, List.mem_append, List.mem_append]
    by_cases h : r ∈ A <;> by_cases h' : r ∈ D <;> simp [h, h']) (small_app SJ3.out SO.out) (by omega) _ _ _ r41 r44).mono ?_
  rintro _ w9 ⟨v11, rfl, r11, hb⟩
  replace ra := ra.below hb
  replace rb := rb.below hb
  replace r9 := r9.below hb
  replace r10 := r10.below hb
  replace hb2 := below_next hb2 hb
  clear hb r41 r44 HJ3 SJ3 lJ3 SJ1 HJ1 lJ1
  have hkm : ((t : Int) % ((A.length : Int) + 1)) = ((t % (A.length + 1) : Nat) : Int) := by rw [Int.natCast_emod]; rfl
  have hkl : t % (A.length + 1) ≤ A.length := by have := Nat.mod_lt t (show 0 < A.length + 1 by omega); omega
  go_wp2_with fail
  rw [hkm]
  clear hkm
  generalize t % (A.length + 1) = k at hkl ⊢
  refine sets_r7 sa ca k A w9 _ ra hkl (by omega) ?_
  intro u13 u52 u53 u54 u55 u56 u57 u58 u59 u60 u61 u62 w10 hb r13
  replace ra := ra.below hb
  replace rb := rb.below hb
  replace r9 := r9.below hb
  replace r10 := r10.below hb
  replace r11 := r11.below hb
  replace hb2 := below_next hb2 hb
  clear hb
  have hmt := mem_turn A k
  have lT : (A.drop k ++ A.take k ++ A).length ≤ 40 := by simp; omega
  have ST : Hid (∀ r ∈ A.drop k ++ A.take k ++ A, r.Small) := Lib.hid fun r hr => SA.out r ((hmt r).1 hr)
  have HMT := Lib.hid hmt
  clear hmt
  generalize A.drop k ++ A.take k ++ A = T at r13 lT ST HMT
  obtain ⟨s9, c9, rfl, _⟩ := r9.form
  go_wp2_with fail
  refine (same_at rfl (by omega) _ _ _ r9 r10).mono ?_
  rintro _ w11 ⟨rfl, hb⟩
  replace ra := ra.below hb
  replace rb := rb.below hb
  replace r9 := r9.below hb
  replace r11 := r11.below hb
  replace r13 := r13.below hb
  replace hb2 := below_next hb2 hb
  clear hb r10
  go_wp2_with fail
  refine (same_at rfl (by omega) _ _ _ r9 r11).mono ?_
  rintro _ w12 ⟨rfl, hb⟩
  replace ra := ra.below hb
  replace rb := rb.below hb
  replace r9 := r9.below hb
  replace r13 := r13.below hb
  replace hb2 := below_next hb2 hb
  clear hb r11
  go_wp2_with fail
  refine (join_nil (O := O) ⟨HO.out.1, fun _ => Iff.rfl⟩ SO.out (by omega) _ _ r9).mono ?_
  rintro _ w13 ⟨v75, rfl, r75, hb⟩
  replace ra := ra.below hb
  replace rb := rb.below hb
  replace r9 := r9.below hb
  replace r13 := r13.below hb
  replace hb2 := below_next hb2 hb
  clear hb
  go_wp2_with fail
  refine (same_at rfl (by omega) _ _ _ r75 r9).mono ?_
  rintro _ w14 ⟨rfl, hb⟩
  replace ra := ra.below hb
  replace rb := rb.below hb
  replace r9 := r9.below hb
  replace r13 := r13.below hb
  replace hb2 := below_next hb2 hb
  clear hb r75
  go_wp2_with fail
  refine (join_is (A := T) (B := []) (by rw [List.append_nil]; exact ST.out) (by simp; omega) _ _ _ r13 (.inl ⟨rfl, rfl⟩)).mono ?_
  rintro _ w15 ⟨v82, X, rfl, hX, hlX, r82, hb⟩
  rw [List.append_nil] at hX hlX
  have HXT := Lib.hid hX
  have HX : Hid (IsSet X A) := Lib.hid (hX.congr HMT.out)
  have lX : X.length ≤ 40 := by omega
  replace ra := ra.below hb
  replace rb := rb.below hb
  replace r9 := r9.below hb
  replace r13 := r13.below hb
  replace hb2 := below_next hb2 hb
  clear hb hX hlX
  go_wp2_with fail
  refine (join_to (A := []) HX.out (fun r => by rw [List.nil_append]) (by rw [List.nil_append]; exact SA.out) (by simp; omega) _ _ _ (.inl ⟨rfl, rfl⟩) ra).mono ?_
  rintro _ w16 ⟨v84, rfl, r84, hb⟩
  replace ra := ra.below hb
  replace rb := rb.below hb
  replace r9 := r9.below hb
  replace r13 := r13.below hb
  replace r82 := r82.below hb
  replace hb2 := below_next hb2 hb
  clear hb
  go_wp2_with fail
  refine (same_at rfl (by omega) _ _ _ r82 r84).mono ?_
  rintro _ w17 ⟨rfl, hb⟩
  replace ra := ra.below hb
  replace rb := rb.below hb
  replace r9 := r9.below hb
  replace r13 := r13.below hb
  replace hb2 := below_next hb2 hb
  clear hb r82 r84
  obtain ⟨S, hS⟩ : ∃ S : ByteArray, S = ⟨(dg (encL X)).toArray⟩ := ⟨_, rfl⟩
  have HS := Lib.hid hS
  clear hS
  go_wp2_with fail
  refine (digest_to HXT.out ST.out (by omega) S HS.out _ _ r13 (HT.out.below hb2)).mono ?_
  rintro _ w18 ⟨rfl, hb⟩
  replace ra := ra.below hb
  replace rb := rb.below hb
  replace r9 := r9.below hb
  replace hb2 := below_next hb2 hb
  clear hb r13 ST HMT HXT lT
  go_wp2_with fail
  refine (digest_to HX.out SA.out (by omega) S HS.out _ _ ra (HT.out.below hb2)).mono ?_
  rintro _ w19 ⟨rfl, hb⟩
  replace ra := ra.below hb
  replace rb := rb.below hb
  replace r9 := r9.below hb
  replace hb2 := below_next hb2 hb
  clear hb
  have HA9 := Lib.hid ra
  have HB9 := Lib.hid rb
  have HR9 := Lib.hid r9
  have HW9 := Lib.hid hb2
  clear ra rb r9 hb2
  go_wp2_with fail
  go_loopw [14] (fun v wr => ∃ i : Nat, 1 ≤ i ∧ i ≤ 100 ∧ v = .int .i64 i ∧ RowKit.Below w19.heap.size w19 wr) (fun v _ => 100 - (RowKit.intOf v).toNat)
  case atStart => exact ⟨1, by omega, by omega, rfl, Below.refl _ _⟩
  case round =>
    obtain ⟨i, hi1, hi100, rfl, hbr⟩ := hrel
    by_cases hlt : i < O.length
    · obtain ⟨b, o, c, hv, _, _, _⟩ := (HR9.out.below hbr).at_ (by omega)
      have e1 := (Value.slice.inj hv).1
      subst e1
      have hx := List.getElem?_eq_getElem (show i - 1 < O.length by omega)
      have hy := List.getElem?_eq_getElem hlt
      have hxy := sorted_at HO.out hi1 hx hy
      clear hv
      go_wp2_with fail
      refine sets_r13 b o c9 i O O[i - 1] O[i] wr _ (HR9.out.below hbr) hi1 hlt (by omega) hx hy hxy ?_
      intro u101 u102 u103 u104 u105 u106 u107 u108 u109 u110 wx hb
      clear hx hy hxy
      go_wp2_with fail
      go_roundw
      case rel => exact ⟨i + 1, by omega, by omega, by go_num, below_next hbr hb⟩
      case measure => simp [RowKit.intOf]; omega
    · have hlt' : ¬ ((i : Int) < (O.length : Int)) := by omega
      have ra := HA9.out.below hbr
      have rb := HB9.out.below hbr
      have r9 := HR9.out.below hbr
      have hb2 := below_next HW9.out hbr
      obtain ⟨L, hL⟩ : ∃ L, L = A ++ B := ⟨_, rfl⟩
      have HL := Lib.hid hL
      have HLm : Hid (∀ r ∈ L, r ∈ O) := Lib.hid fun r hr => (HO.out.2 r).2 (by rw [hL] at hr; exact List.mem_append_left _ hr)
      have lL : L.length ≤ 40 := by rw [hL]; simp; omega
      clear hL HA9 HB9 HR9 HW9 hbr
      obtain ⟨wo, rfl⟩ : ∃ wo, wo = wr := ⟨_, rfl⟩
      go_wp2_with (first
        | (at_builtin; refine wpList_append_reqs rfl (.tmp 112) (.tmp 113) rfl wo.heap.size _ _ [] A rfl rfl (own_empty_at wo wo.heap.size wo.heap.size rfl (Nat.le_refl _)) (ra.below (below_alloc1 _ _)) (by simp; omega) (by simp) ?_; intro v3 w20 hown3 hg3; have hB3 : RowKit.Below wo.heap.size wo w20 := (below_alloc1 wo _).grown hg3 (by simp) (by intro q hq; injection hq with hq; subst hq; simp))
        | (at_builtin; refine wpList_append_reqs rfl (.tmp 114) (.tmp 115) rfl wo.heap.size _ _ ([] ++ A) B rfl rfl hown3 (rb.below hB3) (by simp; omega) hB3.size ?_; intro v4 w21 hown4 hg4; have hB4 : RowKit.Below wo.heap.size wo w21 := hB3.grown hg4 hB3.size (fun q hq => (hown3.lt q hq).1); rw [List.nil_append, ← HL.out] at hown4; obtain ⟨s4, c4, rfl⟩ := own_nil hown4))
      have rl := reqsIn_own hown4
      replace ra := ra.below hB4
      replace rb := rb.below hB4
      replace r9 := r9.below hB4
      replace hb2 := below_next hb2 hB4
      clear hown4 hg4 hB4 hown3 hg3 hB3
      have HRA := Lib.hid ra
      have HRB := Lib.hid rb
      have HR9 := Lib.hid r9
      have HRL := Lib.hid rl
      have HW := Lib.hid hb2
      clear ra rb r9 rl hb2
      go_loopw [118] (fun i wr => ∃ k : Nat, k ≤ L.length ∧ i = .int .i64 k ∧ RowKit.Below w21.heap.size w21 wr) (fun i _ => L.length - (RowKit.intOf i).toNat)
      case atStart => exact ⟨0, Nat.zero_le _, rfl, Below.refl _ _⟩
      case round =>
        obtain ⟨k, hk, rfl, hbr⟩ := hrel
        by_cases hlk : k < L.length
        · obtain ⟨gl, ol, cl, hv, _, hgl, hat⟩ := HRL.out.at_ (by omega)
          have e1 := (Value.slice.inj hv).1
          subst e1
          have hr := List.getElem?_eq_getElem hlk
          generalize L[k] = r at hr
          have HRO := Lib.hid (HLm.out r (List.mem_of_getElem? hr))
          have hatr := (hat k r hr).below hbr hgl
          have hbx0 : ReqBox (wr.alloc (.cells (Req.cells r) 34)) wr.heap.size r := ReqBox.new wr _
          have hb0 : RowKit.Below w21.heap.size w21 (wr.alloc (.cells (Req.cells r) 34)) := hbr.alloc hbr.size _
          clear hv hat hr
          go_wp2_with ((with_reducible refine wpList_load_mid (op := ⟨some 121, _, _, _, _, _⟩) ?_ 34 (.tmp 120) ?_ gl (ol + k * 9) ?_ (Req.cells r).toList _ ?_ Tryd.underlying34 ?_ ?_ ?_); rfl; rfl; rfl; exact hatr; rfl; kernel_rfl)
          obtain ⟨wp, rfl⟩ : ∃ wp, wp = wr := ⟨_, rfl⟩
          go_loopw [17, 124] (fun c i wr => ∃ (j : Nat) (cb : Bool), j ≤ O.length ∧ c = .bool cb ∧ i = .int .i64 j ∧ Hid (cb = true ↔ r ∈ O.take j) ∧ ReqBox wr wp.heap.size r ∧ RowKit.Below w21.heap.size w21 wr) (fun _ i _ => O.length - (RowKit.intOf i).toNat)
          case atStart => exact ⟨0, false, Nat.zero_le _, rfl, rfl, Lib.hid (by simp), hbx0, hb0⟩
          case round =>
            clear hbx0 hb0 hatr
            obtain ⟨j, cb, hj, rfl, rfl, HC, hbx1, hb1⟩ := hrel
            by_cases hlj : j < O.length
            · obtain ⟨gy, oy, cy', hv, _, hgl2, hat⟩ := HR9.out.at_ (by omega)
              have e1 := (Value.slice.inj hv).1
              subst e1
              have hy := List.getElem?_eq_getElem hlj
              generalize O[j] = y at hy
              have haty := (hat j y hy).below hb1 hgl2
              have HN := Lib.hid (mem_snoc hy HC.out)
              have hbx2 : ReqBox (wr.alloc (.cells (Req.cells y) 34)) wp.heap.size r := hbx1.below (below_alloc1 _ _)
              have hb4 : RowKit.Below w21.heap.size w21 (wr.alloc (.cells (Req.cells y) 34)) := hb1.alloc hb1.size _
              have cx2 := hbx2.cell
              have cy2 : ∀ i, (wr.alloc (.cells (Req.cells y) 34)).cell? ⟨wr.heap.size, i, none⟩ = (Req.cells y)[i]? := (ReqBox.new wr y).cell
              simp only [Req.cells] at cx2 cy2
              clear hv hat hy HC hbx1 hb1
              cases cb
              · go_wp2_with ((with_reducible refine wpList_load_mid (op := ⟨some 127, _, _, _, _, _⟩) ?_ 34 (.tmp 126) ?_ gy (oy + j * 9) ?_ (Req.cells y).toList _ ?_ Tryd.underlying34 ?_ ?_ ?_); rfl; rfl; rfl; exact haty; rfl; kernel_rfl)
                go_roundw
                case rel => exact ⟨j + 1, eqReq y r, by omega, rfl, by go_num, Lib.hid (by have := HN.out; simpa using this), hbx2, hb4⟩
                case measure => simp [RowKit.intOf]; omega
              · go_wp2_with ((with_reducible refine wpList_load_mid (op := ⟨some 127, _, _, _, _, _⟩) ?_ 34 (.tmp 126) ?_ gy (oy + j * 9) ?_ (Req.cells y).toList _ ?_ Tryd.underlying34 ?_ ?_ ?_); rfl; rfl; rfl; exact haty; rfl; kernel_rfl)
                go_roundw
                case rel => exact ⟨j + 1, true, by omega, rfl, by go_num, Lib.hid (by have := HN.out; simpa using this), hbx2, hb4⟩
                case measure => simp [RowKit.intOf]; omega
            · obtain rfl : j = O.length := by omega
              have hcb : cb = true := HC.out.2 (by rw [List.take_length]; exact HRO.out)
              subst hcb
              go_wp2_with fail
              go_roundw
              case rel => exact ⟨k + 1, by omega, by go_num, hb1⟩
              case measure => simp [RowKit.intOf]; omega
        · obtain rfl : k = L.length := by omega
          have ra := HRA.out.below hbr
          have rb := HRB.out.below hbr
          have r9 := HR9.out.below hbr
          have hb2 := below_next HW.out hbr
          clear HRA HRB HR9 HW HRL HLm hbr hk hlk
          go_wp2_with fail
          refine (join_nil HX.out SA.out (by omega) _ _ ra).mono ?_
          rintro _ x1 ⟨v20, rfl, r20, hb⟩
          replace ra := ra.below hb
          replace rb := rb.below hb
          replace r9 := r9.below hb
          replace hb2 := below_next hb2 hb
          clear hb
          go_wp2_with fail
          refine (join_is (A := B) (B := []) (by rw [List.append_nil]; exact SB.out) (by simp; omega) _ _ _ rb (.inl ⟨rfl, rfl⟩)).mono ?_
          rintro _ x2 ⟨v21, Y, rfl, hY, hlY, r21, hb⟩
          replace ra := ra.below hb
          replace rb := rb.below hb
          replace r9 := r9.below hb
          replace r20 := r20.below hb
          replace hb2 := below_next hb2 hb
          rw [List.append_nil] at hY hlY
          have HY := Lib.hid hY
          have lY : Y.length ≤ 40 := by omega
          clear hY hlY
          clear hb
          have hle : (O.length : Int) ≤ (A.length : Int) + (B.length : Int) + (D.length : Int) := by have := HLO.out; simp at this; omega
          obtain ⟨SX, hSX⟩ : ∃ S : ByteArray, S = ⟨(encL X).toArray⟩ := ⟨_, rfl⟩
          have HSX := Lib.hid hSX
          clear hSX
          by_cases hXY : X = Y
          · subst hXY
            go_wp2_with fail
            refine (same_at rfl (by omega) _ _ _ r20 r21).mono ?_
            rintro _ x3 ⟨rfl, hb⟩
            replace ra := ra.below hb
            replace rb := rb.below hb
            replace r20 := r20.below hb
            replace r21 := r21.below hb
            replace hb2 := below_next hb2 hb
            clear hb
            go_wp2_with fail
            refine (encode_to (HX.out.small SA.out) (by omega) SX HSX.out _ _ r20 (HT.out.below hb2)).mono ?_
            rintro _ x4 ⟨rfl, hb⟩
            replace ra := ra.below hb
            replace rb := rb.below hb
            replace r20 := r20.below hb
            replace r21 := r21.below hb
            replace hb2 := below_next hb2 hb
            clear hb
            go_wp2_with fail
            refine (encode_to (HX.out.small SA.out) (by omega) SX HSX.out _ _ r21 (HT.out.below hb2)).mono ?_
            rintro _ x5 ⟨rfl, hb⟩
            replace ra := ra.below hb
            replace rb := rb.below hb
            replace r20 := r20.below hb
            replace r21 := r21.below hb
            replace hb2 := below_next hb2 hb
            clear hb
            go_wp2_with fail
            refine (same_at rfl (by omega) _ _ _ r20 r21).mono ?_
            rintro _ x6 ⟨rfl, hb⟩
            replace ra := ra.below hb
            replace rb := rb.below hb
            replace hb2 := below_next hb2 hb
            clear hb
            go_wp2_with fail
            refine (digest_to HX.out SA.out (by omega) S HS.out _ _ ra (HT.out.below hb2)).mono ?_
            rintro _ x7 ⟨rfl, hb⟩
            replace rb := rb.below hb
            replace hb2 := below_next hb2 hb
            clear hb
            go_wp2_with fail
            refine (digest_to HY.out SB.out (by omega) S HS.out _ _ rb (HT.out.below hb2)).mono ?_
            rintro _ x8 ⟨rfl, hb⟩
            replace rb := rb.below hb
            replace hb2 := below_next hb2 hb
            clear hb
            go_wp2_with fail
            go_ret
            exact ⟨rfl, hb2⟩
          · have HXY := Lib.hid hXY
            obtain ⟨SY, hSY⟩ : ∃ S : ByteArray, S = ⟨(encL Y).toArray⟩ := ⟨_, rfl⟩
            have HSY := Lib.hid hSY
            clear hSY hXY
            have hse : (SX.toList == SY.toList) = false := by rw [HSX.out, HSY.out]; exact enc_ne HXY.out
            go_wp2_with fail
            refine (same_ne HXY.out (by omega) _ _ _ r20 r21).mono ?_
            rintro _ x3 ⟨rfl, hb⟩
            replace r20 := r20.below hb
            replace r21 := r21.below hb
            replace hb2 := below_next hb2 hb
            clear hb
            go_wp2_with fail
            refine (encode_to (HX.out.small SA.out) (by omega) SX HSX.out _ _ r20 (HT.out.below hb2)).mono ?_
            rintro _ x4 ⟨rfl, hb⟩
            replace r20 := r20.below hb
            replace r21 := r21.below hb
            replace hb2 := below_next hb2 hb
            clear hb
            go_wp2_with fail
            refine (encode_to (HY.out.small SB.out) (by omega) SY HSY.out _ _ r21 (HT.out.below hb2)).mono ?_
            rintro _ x5 ⟨rfl, hb⟩
            replace r20 := r20.below hb
            replace r21 := r21.below hb
            replace hb2 := below_next hb2 hb
            clear hb
            go_wp2_with fail
            refine (same_ne HXY.out (by omega) _ _ _ r20 r21).mono ?_
            rintro _ x6 ⟨rfl, hb⟩
            replace r20 := r20.below hb
            replace hb2 := below_next hb2 hb
            clear hb
            go_wp2_with fail
            go_ret
            exact ⟨rfl, hb2⟩
end Go.Proofs.YtanmmooflhomoaaDoor
