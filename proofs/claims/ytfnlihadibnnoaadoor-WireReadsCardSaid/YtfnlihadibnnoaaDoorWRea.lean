/- WireReads: walked once. -/
import Derived.Test.YtfnlihadibnnoaaDoorWArg
import Derived.Test.YtfnlihadibnnoaaDoorWRe
namespace Go.Proofs.YtfnlihadibnnoaaDoor
open Go Go.RowKit Go.Sort Go.Lib

theorem RdAt.but {w w' : World} {p q : Nat} {s : ByteArray} {b : Bool} (h : RdAt w p s b) (hB : But q w w') (hne : q ≠ p) : RdAt w' p s b :=
  h.grown hB.grown (fun e => hne (by injection e))
theorem RfAt.but {w w' : World} {p q : Nat} {s : ByteArray} {k : Nat} {b : Bool} (h : RfAt w p s k b) (hB : But q w w') (hne : q ≠ p) : RfAt w' p s k b :=
  h.grown hB.grown (fun e => hne (by injection e))
theorem same_nil_ints (w : World) : Calls Tryd.prog 26 #[.slice none 0 0, .slice none 0 0] w fun e w' => e = .returned (.bool true) ∧ RowKit.Below w.heap.size w w' :=
  (sameInts_any _ _ [] [] (by simp) w ⟨none, 0, rfl, fun h => absurd rfl h⟩ ⟨none, 0, rfl, fun h => absurd rfl h⟩ (by simp)).mono fun e w' ⟨he, hb⟩ => ⟨by rw [he]; rfl, hb⟩
theorem same_nil_texts (w : World) : Calls Tryd.prog 29 #[.slice none 0 0, .slice none 0 0] w fun e w' => e = .returned (.bool true) ∧ RowKit.Below w.heap.size w w' :=
  (sameTexts_any _ _ [] [] (by simp) w ⟨none, 0, rfl, fun h => absurd rfl h⟩ ⟨none, 0, rfl, fun h => absurd rfl h⟩ (by simp)).mono fun e w' ⟨he, hb⟩ => ⟨by rw [he]; rfl, hb⟩
theorem own_but2 {w w' : World} {base p n : Nat} {el : TypeId} {v : Value} {xs : List Value} (h : w.ownsRow base el 1 v n xs) (hB : But p w w') (_h : p < w.heap.size) (hp : p < base) : w'.ownsRow base el 1 v n xs := own_but h hB hp
/-- Both readers stand at one place. -/
def Pair (w0 : World) (pa pb : Nat) (t : ByteArray) (w : World) : Prop := ∃ (cur : List UInt8) (kk : Nat) (b : Bool), RdAt w pa ⟨cur.toArray⟩ b ∧ RfAt w pb t kk b ∧ kk ≤ t.size ∧ cur.length ≤ 200 ∧ Hid (if b = true then cur = [] else cur = t.data.toList.drop kk) ∧ RowKit.Below w0.heap.size w0 w ∧ Ready w
set_option maxHeartbeats 8000000 in
set_option maxRecDepth 100000 in
theorem reads_any {w : World} (s : ByteArray) (hs : (s.size : Int) ≤ 9223372036854775807) (v1 : Value) (l : List Int) (hV : BytesV w v1 l) (hr : Ready w) :
    Calls Tryd.prog 4 #[.string s, v1] w fun e w' => e = .returned (.bool true) ∧ RowKit.Below w.heap.size w w' := by
  obtain ⟨base, c, rfl, hm, hV⟩ := hV
  have HV := Lib.hid hV
  clear hV
  have hcs : (s.extract 0 (min (s.size : Int) 200).toNat).size ≤ 200 := by rw [ByteArray.size_extract]; omega
  go_enter Tryd.func4, Tryd.ntmps4
  go_wp2_with fail
  refine (sanity_any _ hr).mono ?_
  rintro x w1 ⟨rfl, hB⟩
  replace hr := hr.below hB
  go_wp2_with fail
  generalize s.extract 0 (min (s.size : Int) 200).toNat = t at hcs
  refine (new_any t w1).mono ?_
  rintro x w2 ⟨pa, rfl, hpa, hRa, hb⟩
  have hPa := hr.past hpa
  have hwa : w.heap.size ≤ pa := Nat.le_trans hB.size hpa
  have hla := hRa.lt
  replace hB := below_next hB hb
  replace hr := hr.below hb
  clear hb hpa hs
  go_wp2_with fail
  refine (rfNew_any t w2).mono ?_
  rintro x w3 ⟨pb, rfl, hpb, hRb, hb⟩
  have hPb := hr.past hpb
  have hwb : w.heap.size ≤ pb := Nat.le_trans hB.size hpb
  have hne : pa ≠ pb := by omega
  replace hRa := hRa.below hb
  replace hB := below_next hB hb
  replace hr := hr.below hb
  have HTZ := Lib.hid (ba_size t)
  have hP0 : Pair w pa pb t w3 := ⟨t.data.toList, 0, false, by have e : (⟨t.data.toList.toArray⟩ : ByteArray) = t := ba_ext rfl; rw [e]; exact hRa, hRb, Nat.zero_le _, by rw [← HTZ.out]; exact hcs, Lib.hid (by simp), hB, hr⟩
  clear hb hpb hRa hRb hB hr hla
  go_wp2_with fail
  go_loopw [8] (fun i wr => ∃ k : Nat, k ≤ l.length ∧ k ≤ 12 ∧ i = .int .i64 k ∧ Pair w pa pb t wr) (fun i _ => 12 - (RowKit.intOf i).toNat)
  case atStart => exact ⟨0, Nat.zero_le _, by omega, rfl, hP0⟩
  case round =>
    clear hP0
    obtain ⟨k, hk, hk12, rfl, cur, kk, b, hRa, hRb, hkk, hcl, HC, hB, hr⟩ := hrel
    by_cases hlt : k < l.length
    · by_cases hl2 : k < 12
      · obtain ⟨bb, o, rfl, hc⟩ := HV.out (fun e => by rw [e] at hlt; simp at hlt)
        obtain ⟨hc, hx0, hx1⟩ := hc k hlt
        replace hc := mv0 hB hc
        generalize l.getD k 0 = x at hc hx0 hx1
        obtain ⟨q, hq3, hqm⟩ : ∃ q : Nat, q ≤ 3 ∧ x.tmod 4 = q := ⟨(x.tmod 4).toNat, by rw [Int.tmod_eq_emod_of_nonneg hx0]; omega, by rw [Int.tmod_eq_emod_of_nonneg hx0]; omega⟩
        have hcz : (⟨cur.toArray⟩ : ByteArray).size = cur.length := by simp [ByteArray.size]
        have hki : (k : Int) < l.length := by omega
        have hk2i : (k : Int) < 12 := by omega
        clear HV
        obtain rfl | rfl | rfl | rfl : q = 0 ∨ q = 1 ∨ q = 2 ∨ q = 3 := by omega
        · have hgood : ∀ n r, (if b = true then none else intP cur) = some (n, r) → True ∧ True := fun _ _ _ => ⟨trivial, trivial⟩
          have ca := rdInt_any pa hPa ⟨cur.toArray⟩ (by omega) b wr hRa hr.sane hr.errs
          change Calls _ _ _ _ (Reads pa _ _ (if b = true then none else intP cur) wr) at ca
          have cb : ∀ w, RfAt w pb t kk b → Calls _ _ _ w (RefReads pb t _ _ (if b = true then none else intP (t.data.toList.drop kk)) w) := fun w h => rfInt_any pb t (by omega) kk hkk b w h
          have hz : (if b = true then none else intP (t.data.toList.drop kk)) = (if b = true then none else intP cur) := by
            have := HC.out
            cases b
            · simp only [Bool.false_eq_true, if_false] at this ⊢; rw [this]
            · rfl
          rw [hz] at cb
          generalize (if b = true then none else intP cur) = z at ca cb hgood
          clear hz HC
          rcases z with _ | ⟨n, r⟩
          · unfold Reads at ca
            unfold RefReads at cb
            dsimp only at ca cb
            go_wp2_with fail
            refine ca.mono ?_
            rintro _ u1 ⟨rfl, hRa2, hb1⟩
            have hB1 := hB.trans (hb1.below hwa hB.size)
            have hr1 := hr.but hb1 hPa
            have cb1 := cb u1 (hRb.but hb1 hne)
            clear ca cb hRa hRb
            go_wp2_with fail
            refine cb1.mono ?_
            rintro _ u2 ⟨rfl, ⟨k', hk', hRb2⟩, hb2⟩
            have hB2 := hB1.trans (hb2.below hwb hB1.size)
            have hr2 := hr1.but hb2 hPb
            replace hRa2 := hRa2.but hb2 (Ne.symm hne)
            clear cb1 hB hr hB1 hr1 hb1 hb2 hc
            go_wp2_with fail
            have cla := left_any pa _ _ _ hRa2
            rw [if_pos rfl] at cla
            have cba := bad_any pa _ _ _ hRa2
            have clb := fun w (h : RfAt w pb t k' true) => rfLeft_any pb t (by omega) k' hk' true w h
            rw [if_pos rfl] at clb
            go_wp2_with fail
            refine cla.mono ?_
            rintro _ _ ⟨rfl, rfl⟩
            clear cla
            go_wp2_with fail
            refine (clb _ hRb2).mono ?_
            rintro _ u4 ⟨rfl, hb4⟩
            replace hRa2 := hRa2.below hb4
            replace hRb2 := hRb2.below hb4
            have hB4 := below_next hB2 hb4
            have hr4 := hr2.below hb4
            clear clb cba hB2 hr2 hb4
            have cba := bad_any pa _ _ _ hRa2
            have cbb := rfBad_any pb t k' true _ hRb2
            go_wp2_with fail
            refine cba.mono ?_
            rintro _ _ ⟨rfl, rfl⟩
            go_wp2_with fail
            refine cbb.mono ?_
            rintro _ _ ⟨rfl, rfl⟩
            go_wp2_with fail
            go_roundw
            case rel => exact ⟨k + 1, by omega, by omega, by go_num, [], k', true, hRa2, hRb2, hk', by simp, Lib.hid (by simp), hB4, hr4⟩
            case measure => simp [RowKit.intOf]; omega
          · obtain ⟨hg1, hg2⟩ := hgood n r rfl
            unfold Reads at ca
            unfold RefReads at cb
            dsimp only at ca cb
            go_wp2_with fail
            refine ca.mono ?_
            rintro _ u1 ⟨rfl, hRa2, hb1⟩
            have hB1 := hB.trans (hb1.below hwa hB.size)
            have hr1 := hr.but hb1 hPa
            have cb1 := cb u1 (hRb.but hb1 hne)
            have hlb : pb < u1.heap.size := (hRb.but hb1 hne).lt
            clear ca cb hRa
            go_wp2_with fail
            refine cb1.mono ?_
            rintro _ u2 ⟨rfl, ⟨k', hk', hy, hRb2⟩, hb2⟩
            have hB2 := hB1.trans (hb2.below hwb hB1.size)
            have hr2 := hr1.but hb2 hPb
            replace hRa2 := hRa2.but hb2 (Ne.symm hne)
            have HY := Lib.hid hy
            have hyl : r.length = t.size - k' := drop_len hk' hy
            clear cb1 hB hr hB1 hr1 hb1 hb2 hc hy hRb
            go_wp2_with fail
            have cla := left_any pa _ _ _ hRa2
            have hrz : (⟨r.toArray⟩ : ByteArray).size = r.length := by simp [ByteArray.size]
            rw [if_neg (by decide), hrz] at cla
            have clb := fun w (h : RfAt w pb t k' false) => rfLeft_any pb t (by omega) k' hk' false w h
            rw [if_neg (by decide), show (t.size : Int) - k' = r.length by omega] at clb
            go_wp2_with fail
            refine cla.mono ?_
            rintro _ _ ⟨rfl, rfl⟩
            clear cla
            go_wp2_with fail
            refine (clb _ hRb2).mono ?_
            rintro _ u4 ⟨rfl, hb4⟩
            replace hRa2 := hRa2.below hb4
            replace hRb2 := hRb2.below hb4
            have hB4 := below_next hB2 hb4
            have hr4 := hr2.below hb4
            clear clb hB2 hr2 hb4
            have cba := bad_any pa _ _ _ hRa2
            have cbb := rfBad_any pb t k' false _ hRb2
            go_wp2_with fail
            refine cba.mono ?_
            rintro _ _ ⟨rfl, rfl⟩
            go_wp2_with fail
            refine cbb.mono ?_
            rintro _ _ ⟨rfl, rfl⟩
            go_wp2_with fail
            go_roundw
            case rel => exact ⟨k + 1, by omega, by omega, by go_num, r, k', false, hRa2, hRb2, hk', by omega, Lib.hid (by simpa using HY.out), hB4, hr4⟩
            case measure => simp [RowKit.intOf]; omega
        · have hgood : ∀ n r, (if b = true then none else txtP cur) = some (n, r) → True ∧ True := fun _ _ _ => ⟨trivial, trivial⟩
          have ca := rdText_txt pa hPa ⟨cur.toArray⟩ (by omega) b wr hRa hr.sane hr.errs
          change Calls _ _ _ _ (Reads pa _ _ (if b = true then none else txtP cur) wr) at ca
          have cb : ∀ w, RfAt w pb t kk b → Calls _ _ _ w (RefReads pb t _ _ (if b = true then none else txtP (t.data.toList.drop kk)) w) := fun w h => rfText_any pb t (by omega) kk hkk b w h
          have hz : (if b = true then none else txtP (t.data.toList.drop kk)) = (if b = true then none else txtP cur) := by
            have := HC.out
            cases b
            · simp only [Bool.false_eq_true, if_false] at this ⊢; rw [this]
            · rfl
          rw [hz] at cb
          generalize (if b = true then none else txtP cur) = z at ca cb hgood
          clear hz HC
          rcases z with _ | ⟨n, r⟩
          · unfold Reads at ca
            unfold RefReads at cb
            dsimp only at ca cb
            go_wp2_with fail
            refine ca.mono ?_
            rintro _ u1 ⟨rfl, hRa2, hb1⟩
            have hB1 := hB.trans (hb1.below hwa hB.size)
            have hr1 := hr.but hb1 hPa
            have cb1 := cb u1 (hRb.but hb1 hne)
            clear ca cb hRa hRb
            go_wp2_with fail
            refine cb1.mono ?_
            rintro _ u2 ⟨rfl, ⟨k', hk', hRb2⟩, hb2⟩
            have hB2 := hB1.trans (hb2.below hwb hB1.size)
            have hr2 := hr1.but hb2 hPb
            replace hRa2 := hRa2.but hb2 (Ne.symm hne)
            clear cb1 hB hr hB1 hr1 hb1 hb2 hc
            go_wp2_with fail
            have cla := left_any pa _ _ _ hRa2
            rw [if_pos rfl] at cla
            have cba := bad_any pa _ _ _ hRa2
            have clb := fun w (h : RfAt w pb t k' true) => rfLeft_any pb t (by omega) k' hk' true w h
            rw [if_pos rfl] at clb
            go_wp2_with fail
            refine cla.mono ?_
            rintro _ _ ⟨rfl, rfl⟩
            clear cla
            go_wp2_with fail
            refine (clb _ hRb2).mono ?_
            rintro _ u4 ⟨rfl, hb4⟩
            replace hRa2 := hRa2.below hb4
            replace hRb2 := hRb2.below hb4
            have hB4 := below_next hB2 hb4
            have hr4 := hr2.below hb4
            clear clb cba hB2 hr2 hb4
            have cba := bad_any pa _ _ _ hRa2
            have cbb := rfBad_any pb t k' true _ hRb2
            go_wp2_with fail
            refine cba.mono ?_
            rintro _ _ ⟨rfl, rfl⟩
            go_wp2_with fail
            refine cbb.mono ?_
            rintro _ _ ⟨rfl, rfl⟩
            go_wp2_with fail
            go_roundw
            case rel => exact ⟨k + 1, by omega, by omega, by go_num, [], k', true, hRa2, hRb2, hk', by simp, Lib.hid (by simp), hB4, hr4⟩
            case measure => simp [RowKit.intOf]; omega
          · obtain ⟨hg1, hg2⟩ := hgood n r rfl
            unfold Reads at ca
            unfold RefReads at cb
            dsimp only at ca cb
            go_wp2_with fail
            refine ca.mono ?_
            rintro _ u1 ⟨rfl, hRa2, hb1⟩
            have hB1 := hB.trans (hb1.below hwa hB.size)
            have hr1 := hr.but hb1 hPa
            have cb1 := cb u1 (hRb.but hb1 hne)
            have hlb : pb < u1.heap.size := (hRb.but hb1 hne).lt
            clear ca cb hRa
            go_wp2_with fail
            refine cb1.mono ?_
            rintro _ u2 ⟨rfl, ⟨k', hk', hy, hRb2⟩, hb2⟩
            have hB2 := hB1.trans (hb2.below hwb hB1.size)
            have hr2 := hr1.but hb2 hPb
            replace hRa2 := hRa2.but hb2 (Ne.symm hne)
            have HY := Lib.hid hy
            have hyl : r.length = t.size - k' := drop_len hk' hy
            clear cb1 hB hr hB1 hr1 hb1 hb2 hc hy hRb
            go_wp2_with fail
            have cla := left_any pa _ _ _ hRa2
            have hrz : (⟨r.toArray⟩ : ByteArray).size = r.length := by simp [ByteArray.size]
            rw [if_neg (by decide), hrz] at cla
            have clb := fun w (h : RfAt w pb t k' false) => rfLeft_any pb t (by omega) k' hk' false w h
            rw [if_neg (by decide), show (t.size : Int) - k' = r.length by omega] at clb
            go_wp2_with fail
            refine cla.mono ?_
            rintro _ _ ⟨rfl, rfl⟩
            clear cla
            go_wp2_with fail
            refine (clb _ hRb2).mono ?_
            rintro _ u4 ⟨rfl, hb4⟩
            replace hRa2 := hRa2.below hb4
            replace hRb2 := hRb2.below hb4
            have hB4 := below_next hB2 hb4
            have hr4 := hr2.below hb4
            clear clb hB2 hr2 hb4
            have cba := bad_any pa _ _ _ hRa2
            have cbb := rfBad_any pb t k' false _ hRb2
            go_wp2_with fail
            refine cba.mono ?_
            rintro _ _ ⟨rfl, rfl⟩
            go_wp2_with fail
            refine cbb.mono ?_
            rintro _ _ ⟨rfl, rfl⟩
            go_wp2_with fail
            go_roundw
            case rel => exact ⟨k + 1, by omega, by omega, by go_num, r, k', false, hRa2, hRb2, hk', by omega, Lib.hid (by simpa using HY.out), hB4, hr4⟩
            case measure => simp [RowKit.intOf]; omega
        · have hgood : ∀ n r, (if b = true then none else intsP cur) = some (n, r) → n.length ≤ 200 ∧ (∀ x ∈ n, Fits x) := fun n r h => by
            cases b
            · rw [if_neg (by decide)] at h; exact ⟨by have := intsP_len h; omega, intsP_fits h⟩
            · cases h
          have ca := rdInts_any pa hPa cur (by omega) b wr hRa hr.sane hr.errs
          change Calls _ _ _ _ (ReadsL pa _ _ (if b = true then none else intsP cur) wr) at ca
          have cb : ∀ w, RfAt w pb t kk b → Calls _ _ _ w (RefReadsL pb t _ _ (if b = true then none else intsP (t.data.toList.drop kk)) w) := fun w h => rfInts_any pb t (by omega) kk hkk b w h
          have hz : (if b = true then none else intsP (t.data.toList.drop kk)) = (if b = true then none else intsP cur) := by
            have := HC.out
            cases b
            · simp only [Bool.false_eq_true, if_false] at this ⊢; rw [this]
            · rfl
          rw [hz] at cb
          generalize (if b = true then none else intsP cur) = z at ca cb hgood
          clear hz HC
          rcases z with _ | ⟨n, r⟩
          · unfold ReadsL at ca
            unfold RefReadsL at cb
            dsimp only at ca cb
            go_wp2_with fail
            refine ca.mono ?_
            rintro _ u1 ⟨rfl, hRa2, hb1⟩
            have hB1 := hB.trans (hb1.below hwa hB.size)
            have hr1 := hr.but hb1 hPa
            have cb1 := cb u1 (hRb.but hb1 hne)
            clear ca cb hRa hRb
            go_wp2_with fail
            refine cb1.mono ?_
            rintro _ u2 ⟨rfl, ⟨k', hk', hRb2⟩, hb2⟩
            have hB2 := hB1.trans (hb2.below hwb hB1.size)
            have hr2 := hr1.but hb2 hPb
            replace hRa2 := hRa2.but hb2 (Ne.symm hne)
            clear cb1 hB hr hB1 hr1 hb1 hb2 hc
            go_wp2_with fail
            refine (same_nil_ints _).mono ?_
            rintro _ u3 ⟨rfl, hb3⟩
            replace hRa2 := hRa2.below hb3
            replace hRb2 := hRb2.below hb3
            replace hB2 := below_next hB2 hb3
            replace hr2 := hr2.below hb3
            clear hb3
            have cla := left_any pa _ _ _ hRa2
            rw [if_pos rfl] at cla
            have cba := bad_any pa _ _ _ hRa2
            have clb := fun w (h : RfAt w pb t k' true) => rfLeft_any pb t (by omega) k' hk' true w h
            rw [if_pos rfl] at clb
            go_wp2_with fail
            refine cla.mono ?_
            rintro _ _ ⟨rfl, rfl⟩
            clear cla
            go_wp2_with fail
            refine (clb _ hRb2).mono ?_
            rintro _ u4 ⟨rfl, hb4⟩
            replace hRa2 := hRa2.below hb4
            replace hRb2 := hRb2.below hb4
            have hB4 := below_next hB2 hb4
            have hr4 := hr2.below hb4
            clear clb cba hB2 hr2 hb4
            have cba := bad_any pa _ _ _ hRa2
            have cbb := rfBad_any pb t k' true _ hRb2
            go_wp2_with fail
            refine cba.mono ?_
            rintro _ _ ⟨rfl, rfl⟩
            go_wp2_with fail
            refine cbb.mono ?_
            rintro _ _ ⟨rfl, rfl⟩
            go_wp2_with fail
            go_roundw
            case rel => exact ⟨k + 1, by omega, by omega, by go_num, [], k', true, hRa2, hRb2, hk', by simp, Lib.hid (by simp), hB4, hr4⟩
            case measure => simp [RowKit.intOf]; omega
          · obtain ⟨hg1, hg2⟩ := hgood n r rfl
            unfold ReadsL at ca
            unfold RefReadsL at cb
            dsimp only at ca cb
            go_wp2_with fail
            refine ca.mono ?_
            rintro _ u1 ⟨va, rfl, hva, hRa2, hb1⟩
            have hB1 := hB.trans (hb1.below hwa hB.size)
            have hr1 := hr.but hb1 hPa
            have cb1 := cb u1 (hRb.but hb1 hne)
            have hlb : pb < u1.heap.size := (hRb.but hb1 hne).lt
            clear ca cb hRa
            go_wp2_with fail
            refine cb1.mono ?_
            rintro _ u2 ⟨vb, rfl, hvb, ⟨k', hk', hy, hRb2⟩, hb2⟩
            have hB2 := hB1.trans (hb2.below hwb hB1.size)
            have hr2 := hr1.but hb2 hPb
            replace hRa2 := hRa2.but hb2 (Ne.symm hne)
            replace hva := own_but2 hva hb2 hlb hRb.lt
            have HY := Lib.hid hy
            have hyl : r.length = t.size - k' := drop_len hk' hy
            clear cb1 hB hr hB1 hr1 hb1 hb2 hc hy hRb
            go_wp2_with fail
            refine (sameInts_any va vb n n (by omega) _ (intsV_own hva hg2) (intsV_own hvb hg2) (by omega)).mono ?_
            rintro _ u3 ⟨rfl, hb3⟩
            replace hRa2 := hRa2.below hb3
            replace hRb2 := hRb2.below hb3
            replace hB2 := below_next hB2 hb3
            replace hr2 := hr2.below hb3
            clear hb3 hva hvb
            have cla := left_any pa _ _ _ hRa2
            have hrz : (⟨r.toArray⟩ : ByteArray).size = r.length := by simp [ByteArray.size]
            rw [if_neg (by decide), hrz] at cla
            have clb := fun w (h : RfAt w pb t k' false) => rfLeft_any pb t (by omega) k' hk' false w h
            rw [if_neg (by decide), show (t.size : Int) - k' = r.length by omega] at clb
            go_wp2_with fail
            refine cla.mono ?_
            rintro _ _ ⟨rfl, rfl⟩
            clear cla
            go_wp2_with fail
            refine (clb _ hRb2).mono ?_
            rintro _ u4 ⟨rfl, hb4⟩
            replace hRa2 := hRa2.below hb4
            replace hRb2 := hRb2.below hb4
            have hB4 := below_next hB2 hb4
            have hr4 := hr2.below hb4
            clear clb hB2 hr2 hb4
            have cba := bad_any pa _ _ _ hRa2
            have cbb := rfBad_any pb t k' false _ hRb2
            go_wp2_with fail
            refine cba.mono ?_
            rintro _ _ ⟨rfl, rfl⟩
            go_wp2_with fail
            refine cbb.mono ?_
            rintro _ _ ⟨rfl, rfl⟩
            go_wp2_with fail
            go_roundw
            case rel => exact ⟨k + 1, by omega, by omega, by go_num, r, k', false, hRa2, hRb2, hk', by omega, Lib.hid (by simpa using HY.out), hB4, hr4⟩
            case measure => simp [RowKit.intOf]; omega
        · have hgood : ∀ n r, (if b = true then none else txtsP cur) = some (n, r) → n.length ≤ 200 ∧ (∀ x ∈ n, x.size ≤ 1000000) := fun n r h => by
            cases b
            · rw [if_neg (by decide)] at h; exact ⟨by have := txtsP_len h; omega, fun x hx => by have := txtsP_short h x hx; omega⟩
            · cases h
          have ca := rdTexts_any pa hPa cur (by omega) b wr hRa hr.sane hr.errs
          change Calls _ _ _ _ (ReadsL pa _ _ (if b = true then none else txtsP cur) wr) at ca
          have cb : ∀ w, RfAt w pb t kk b → Calls _ _ _ w (RefReadsL pb t _ _ (if b = true then none else txtsP (t.data.toList.drop kk)) w) := fun w h => rfTexts_any pb t (by omega) kk hkk b w h
          have hz : (if b = true then none else txtsP (t.data.toList.drop kk)) = (if b = true then none else txtsP cur) := by
            have := HC.out
            cases b
            · simp only [Bool.false_eq_true, if_false] at this ⊢; rw [this]
            · rfl
          rw [hz] at cb
          generalize (if b = true then none else txtsP cur) = z at ca cb hgood
          clear hz HC
          rcases z with _ | ⟨n, r⟩
          · unfold ReadsL at ca
            unfold RefReadsL at cb
            dsimp only at ca cb
            go_wp2_with fail
            refine ca.mono ?_
            rintro _ u1 ⟨rfl, hRa2, hb1⟩
            have hB1 := hB.trans (hb1.below hwa hB.size)
            have hr1 := hr.but hb1 hPa
            have cb1 := cb u1 (hRb.but hb1 hne)
            clear ca cb hRa hRb
            go_wp2_with fail
            refine cb1.mono ?_
            rintro _ u2 ⟨rfl, ⟨k', hk', hRb2⟩, hb2⟩
            have hB2 := hB1.trans (hb2.below hwb hB1.size)
            have hr2 := hr1.but hb2 hPb
            replace hRa2 := hRa2.but hb2 (Ne.symm hne)
            clear cb1 hB hr hB1 hr1 hb1 hb2 hc
            go_wp2_with fail
            refine (same_nil_texts _).mono ?_
            rintro _ u3 ⟨rfl, hb3⟩
            replace hRa2 := hRa2.below hb3
            replace hRb2 := hRb2.below hb3
            replace hB2 := below_next hB2 hb3
            replace hr2 := hr2.below hb3
            clear hb3
            have cla := left_any pa _ _ _ hRa2
            rw [if_pos rfl] at cla
            have cba := bad_any pa _ _ _ hRa2
            have clb := fun w (h : RfAt w pb t k' true) => rfLeft_any pb t (by omega) k' hk' true w h
            rw [if_pos rfl] at clb
            go_wp2_with fail
            refine cla.mono ?_
            rintro _ _ ⟨rfl, rfl⟩
            clear cla
            go_wp2_with fail
            refine (clb _ hRb2).mono ?_
            rintro _ u4 ⟨rfl, hb4⟩
            replace hRa2 := hRa2.below hb4
            replace hRb2 := hRb2.below hb4
            have hB4 := below_next hB2 hb4
            have hr4 := hr2.below hb4
            clear clb cba hB2 hr2 hb4
            have cba := bad_any pa _ _ _ hRa2
            have cbb := rfBad_any pb t k' true _ hRb2
            go_wp2_with fail
            refine cba.mono ?_
            rintro _ _ ⟨rfl, rfl⟩
            go_wp2_with fail
            refine cbb.mono ?_
            rintro _ _ ⟨rfl, rfl⟩
            go_wp2_with fail
            go_roundw
            case rel => exact ⟨k + 1, by omega, by omega, by go_num, [], k', true, hRa2, hRb2, hk', by simp, Lib.hid (by simp), hB4, hr4⟩
            case measure => simp [RowKit.intOf]; omega
          · obtain ⟨hg1, hg2⟩ := hgood n r rfl
            unfold ReadsL at ca
            unfold RefReadsL at cb
            dsimp only at ca cb
            go_wp2_with fail
            refine ca.mono ?_
            rintro _ u1 ⟨va, rfl, hva, hRa2, hb1⟩
            have hB1 := hB.trans (hb1.below hwa hB.size)
            have hr1 := hr.but hb1 hPa
            have cb1 := cb u1 (hRb.but hb1 hne)
            have hlb : pb < u1.heap.size := (hRb.but hb1 hne).lt
            clear ca cb hRa
            go_wp2_with fail
            refine cb1.mono ?_
            rintro _ u2 ⟨vb, rfl, hvb, ⟨k', hk', hy, hRb2⟩, hb2⟩
            have hB2 := hB1.trans (hb2.below hwb hB1.size)
            have hr2 := hr1.but hb2 hPb
            replace hRa2 := hRa2.but hb2 (Ne.symm hne)
            replace hva := own_but2 hva hb2 hlb hRb.lt
            have HY := Lib.hid hy
            have hyl : r.length = t.size - k' := drop_len hk' hy
            clear cb1 hB hr hB1 hr1 hb1 hb2 hc hy hRb
            go_wp2_with fail
            refine (sameTexts_any va vb n n (by omega) _ (txtsV_own hva hg2) (txtsV_own hvb hg2) (by omega)).mono ?_
            rintro _ u3 ⟨rfl, hb3⟩
            replace hRa2 := hRa2.below hb3
            replace hRb2 := hRb2.below hb3
            replace hB2 := below_next hB2 hb3
            replace hr2 := hr2.below hb3
            clear hb3 hva hvb
            have cla := left_any pa _ _ _ hRa2
            have hrz : (⟨r.toArray⟩ : ByteArray).size = r.length := by simp [ByteArray.size]
            rw [if_neg (by decide), hrz] at cla
            have clb := fun w (h : RfAt w pb t k' false) => rfLeft_any pb t (by omega) k' hk' false w h
            rw [if_neg (by decide), show (t.size : Int) - k' = r.length by omega] at clb
            go_wp2_with fail
            refine cla.mono ?_
            rintro _ _ ⟨rfl, rfl⟩
            clear cla
            go_wp2_with fail
            refine (clb _ hRb2).mono ?_
            rintro _ u4 ⟨rfl, hb4⟩
            replace hRa2 := hRa2.below hb4
            replace hRb2 := hRb2.below hb4
            have hB4 := below_next hB2 hb4
            have hr4 := hr2.below hb4
            clear clb hB2 hr2 hb4
            have cba := bad_any pa _ _ _ hRa2
            have cbb := rfBad_any pb t k' false _ hRb2
            go_wp2_with fail
            refine cba.mono ?_
            rintro _ _ ⟨rfl, rfl⟩
            go_wp2_with fail
            refine cbb.mono ?_
            rintro _ _ ⟨rfl, rfl⟩
            go_wp2_with fail
            go_roundw
            case rel => exact ⟨k + 1, by omega, by omega, by go_num, r, k', false, hRa2, hRb2, hk', by omega, Lib.hid (by simpa using HY.out), hB4, hr4⟩
            case measure => simp [RowKit.intOf]; omega
      · obtain rfl : k = 12 := by omega
        go_wp2_with fail
        go_ret
        exact ⟨rfl, hB⟩
    · obtain rfl : k = l.length := by omega
      go_wp2_with fail
      go_ret
      exact ⟨rfl, hB⟩
end Go.Proofs.YtfnlihadibnnoaaDoor
