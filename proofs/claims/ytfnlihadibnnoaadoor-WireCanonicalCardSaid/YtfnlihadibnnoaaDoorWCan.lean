/- WireCanonical: walked once. -/
import Derived.Test.YtfnlihadibnnoaaDoorWLv
namespace Go.Proofs.YtfnlihadibnnoaaDoor
open Go Go.RowKit Go.Sort Go.Lib

theorem canon_len {t A q : List UInt8} (h : t = A ++ q) : (A.length : Int) = (t.length : Int) - q.length := by rw [h, List.length_append]; omega
theorem canon_pre {t A q : List UInt8} (h : t = A ++ q) : (⟨t.toArray⟩ : ByteArray).extract 0 A.length = ⟨A.toArray⟩ := ba_ext (by simp [ByteArray.data_extract, h])
theorem elemsF_len {α : Type} (f : List UInt8 → Option (α × List UInt8)) : ∀ (n : Nat) (s : List UInt8) (l : List α) (r : List UInt8), elemsF f n s = some (l, r) → l.length ≤ n
  | 0, _, _, _, h => by cases h
  | _ + 1, [], _, _, h => by cases h
  | n + 1, c :: q, l, r, h => by
    simp only [elemsF] at h
    split at h
    · injection h with h
      injection h with h1 h2
      subst h1
      simp
    · rcases hx : f (c :: q) with _ | ⟨x, z⟩
      · rw [hx] at h; cases h
      · rw [hx] at h
        simp only at h
        rcases hl : elemsF f n z with _ | ⟨m, y⟩
        · rw [hl] at h; cases h
        · rw [hl] at h
          simp only at h
          injection h with h
          injection h with h1 h2
          subst h1
          have := elemsF_len f n z m y hl
          simp; omega
theorem listP_len {α : Type} {f : List UInt8 → Option (α × List UInt8)} {s : List UInt8} {l : List α} {r : List UInt8} (h : listP f s = some (l, r)) : l.length ≤ s.length := by
  cases s with
  | nil => cases h
  | cons c q =>
    simp only [listP] at h
    split at h
    · have := elemsF_len f _ _ _ _ h; simpa using this
    · cases h
theorem listP_good {α : Type} {f : List UInt8 → Option (α × List UInt8)} {G : α → Prop} (hf : ∀ s x r, f s = some (x, r) → G x) {s : List UInt8} {l : List α} {r : List UInt8} (h : listP f s = some (l, r)) : ∀ x ∈ l, G x := by
  cases s with
  | nil => cases h
  | cons c q =>
    simp only [listP] at h
    split at h
    · exact elemsF_good f G hf _ _ _ _ h
    · cases h
theorem intsP_fits {s : List UInt8} {l : List Int} {r : List UInt8} (h : intsP s = some (l, r)) : ∀ x ∈ l, Fits x := listP_good (fun _ _ _ h => (intP_some h).2) h
theorem intsP_len {s : List UInt8} {l : List Int} {r : List UInt8} (h : intsP s = some (l, r)) : l.length ≤ s.length := listP_len h
theorem txtsP_len {s : List UInt8} {l : List ByteArray} {r : List UInt8} (h : txtsP s = some (l, r)) : l.length ≤ s.length := listP_len h
theorem txtsP_short {s : List UInt8} {l : List ByteArray} {r : List UInt8} (h : txtsP s = some (l, r)) : ∀ x ∈ l, x.size ≤ s.length := by
  have e := txtsP_some h
  intro x hx
  have h1 : (wText x).length ≤ (l.flatMap wText).length := by
    clear h e
    induction l with
    | nil => cases hx
    | cons y l ih =>
      rw [List.flatMap_cons, List.length_append]
      rcases List.mem_cons.1 hx with rfl | hx
      · omega
      · have := ih hx; omega
  have h2 : x.size ≤ (wText x).length := by have := ba_size x; simp [wText]; omega
  have h3 : (l.flatMap wText).length ≤ s.length := by rw [e]; simp [wTexts]; omega
  omega
set_option maxHeartbeats 4000000 in
set_option maxRecDepth 100000 in
theorem canonical_any (s : ByteArray) (hs : (s.size : Int) ≤ 9223372036854775807) (w : World) (hr : Ready w) :
    Calls Tryd.prog 6 #[.string s] w fun e w' => e = .returned (.bool true) ∧ RowKit.Below w.heap.size w w' := by
  have hcs : (s.extract 0 (min (s.size : Int) 200).toNat).size ≤ 200 := by rw [ByteArray.size_extract]; omega
  go_enter Tryd.func6, Tryd.ntmps6
  go_wp2_with fail
  refine (sanity_any _ hr).mono ?_
  rintro x w1 ⟨rfl, hb⟩
  replace hr := hr.below hb
  have hB := hb
  clear hb
  go_wp2_with fail
  generalize s.extract 0 (min (s.size : Int) 200).toNat = t0 at hcs
  obtain ⟨t, rfl⟩ : ∃ t : List UInt8, t0 = ⟨t.toArray⟩ := ⟨t0.data.toList, ba_ext rfl⟩
  have htl : t.length ≤ 200 := by simpa [ByteArray.size] using hcs
  have htz : (⟨t.toArray⟩ : ByteArray).size = t.length := by simp [ByteArray.size]
  clear hcs hs
  go_loopw [4] (fun i wr => ∃ k : Nat, k ≤ 4 ∧ i = .int .i64 k ∧ RowKit.Below w.heap.size w wr ∧ Ready wr) (fun i _ => 4 - (RowKit.intOf i).toNat)
  case atStart => exact ⟨0, by omega, rfl, hB, hr⟩
  case round =>
    clear hB hr
    obtain ⟨k, hk, rfl, hB, hr⟩ := hrel
    by_cases hlt : k < 4
    · obtain rfl | rfl | rfl | rfl : k = 0 ∨ k = 1 ∨ k = 2 ∨ k = 3 := by omega
      · go_wp2_with fail
        refine (new_any _ wr).mono ?_
        rintro x w2 ⟨p, rfl, hp, hR, hb⟩
        have hP := hr.past hp
        have hps : w.heap.size ≤ p := Nat.le_trans hB.size hp
        replace hB := below_next hB hb
        replace hr := hr.below hb
        clear hb hp
        have hpl := hR.lt
        have c := rdInt_any p hP ⟨t.toArray⟩ (by omega) false w2 hR hr.sane hr.errs
        rw [if_neg (by decide)] at c
        change Calls _ _ _ _ (Reads p _ _ (intP t) _) at c
        rcases hz : intP t with _ | ⟨n, q⟩
        · rw [hz] at c
          unfold Reads at c
          dsimp only at c
          clear hz
          go_wp2_with fail
          refine c.mono ?_
          rintro x w3 ⟨rfl, hR2, hb⟩
          replace hB := hB.trans (hb.below hps hB.size)
          replace hr := hr.but hb hP
          clear hb c hR
          go_wp2_with fail
          refine (wireInt_any 0 _ (by decide) (by decide) hr.sane.1).mono ?_
          rintro x w4 ⟨rfl, hb⟩
          replace hB := below_next hB hb
          replace hr := hr.below hb
          replace hR2 := hR2.below hb
          clear hb
          have cb := bad_any p _ _ _ hR2
          have cl := left_any p _ _ _ hR2
          rw [if_pos rfl] at cl
          go_wp2_with fail
          refine cb.mono ?_
          rintro x _ ⟨rfl, rfl⟩
          go_wp2_with fail
          refine cb.mono ?_
          rintro x _ ⟨rfl, rfl⟩
          go_wp2_with fail
          refine cl.mono ?_
          rintro x _ ⟨rfl, rfl⟩
          go_wp2_with fail
          (try go_roundw)
          case rel => exact ⟨1, by omega, by go_num, hB, hr⟩
          case measure => simp [RowKit.intOf]
        · rw [hz] at c
          have HT := (fun h => (intP_some h).1) hz
          have HF := (intP_some hz).2
          unfold Reads at c
          dsimp only at c
          clear hz
          go_wp2_with fail
          refine c.mono ?_
          rintro x w3 ⟨rfl, hR2, hb⟩
          replace hB := hB.trans (hb.below hps hB.size)
          replace hr := hr.but hb hP
          clear hb c hR
          go_wp2_with fail
          refine (wireInt_any n _ HF.1 HF.2 hr.sane.1).mono ?_
          rintro x w4 ⟨rfl, hb⟩
          replace hB := below_next hB hb
          replace hr := hr.below hb
          replace hR2 := hR2.below hb
          clear hb
          generalize wInt n = A at HT
          subst HT
          have e2 : (⟨(A ++ q).toArray⟩ : ByteArray).extract 0 A.length = ⟨A.toArray⟩ := canon_pre rfl
          have e3 : (⟨q.toArray⟩ : ByteArray).size = q.length := by simp [ByteArray.size]
          have ew : IntKind.i64.wrap (((A.length : Int) + q.length) - q.length) = A.length := by rw [Int.add_sub_cancel]; exact IntWalk.i64_in _ (by rw [List.length_append] at htl; omega)
          rw [List.length_append] at htz htl
          have cb := bad_any p _ _ _ hR2
          have cl := left_any p _ _ _ hR2
          rw [if_neg (by decide), e3] at cl
          have e4 : (⟨A.toArray⟩ : ByteArray).size = A.length := by simp [ByteArray.size]
          clear e3
          go_wp2_with fail
          refine cb.mono ?_
          rintro x _ ⟨rfl, rfl⟩
          go_wp2_with fail
          refine cl.mono ?_
          rintro x _ ⟨rfl, rfl⟩
          go_wp2_with fail
          refine cb.mono ?_
          rintro x _ ⟨rfl, rfl⟩
          go_wp2_with fail
          (try go_roundw)
          case rel => exact ⟨1, by omega, by go_num, hB, hr⟩
          case measure => simp [RowKit.intOf]
      · go_wp2_with fail
        refine (new_any _ wr).mono ?_
        rintro x w2 ⟨p, rfl, hp, hR, hb⟩
        have hP := hr.past hp
        have hps : w.heap.size ≤ p := Nat.le_trans hB.size hp
        replace hB := below_next hB hb
        replace hr := hr.below hb
        clear hb hp
        have hpl := hR.lt
        have c := rdText_txt p hP ⟨t.toArray⟩ (by omega) false w2 hR hr.sane hr.errs
        rw [if_neg (by decide)] at c
        change Calls _ _ _ _ (Reads p _ _ (txtP t) _) at c
        rcases hz : txtP t with _ | ⟨n, q⟩
        · rw [hz] at c
          unfold Reads at c
          dsimp only at c
          clear hz
          go_wp2_with fail
          refine c.mono ?_
          rintro x w3 ⟨rfl, hR2, hb⟩
          replace hB := hB.trans (hb.below hps hB.size)
          replace hr := hr.but hb hP
          clear hb c hR
          go_wp2_with fail
          refine (wireText_any ⟨#[]⟩ _ (by decide) hr.sane.1).mono ?_
          rintro x w4 ⟨rfl, hb⟩
          replace hB := below_next hB hb
          replace hr := hr.below hb
          replace hR2 := hR2.below hb
          clear hb
          have cb := bad_any p _ _ _ hR2
          have cl := left_any p _ _ _ hR2
          rw [if_pos rfl] at cl
          go_wp2_with fail
          refine cb.mono ?_
          rintro x _ ⟨rfl, rfl⟩
          go_wp2_with fail
          refine cb.mono ?_
          rintro x _ ⟨rfl, rfl⟩
          go_wp2_with fail
          refine cl.mono ?_
          rintro x _ ⟨rfl, rfl⟩
          go_wp2_with fail
          (try go_roundw)
          case rel => exact ⟨2, by omega, by go_num, hB, hr⟩
          case measure => simp [RowKit.intOf]
        · rw [hz] at c
          have HT := (fun h => (txtP_some h).1) hz
          have HF := (txtP_some hz).2
          unfold Reads at c
          dsimp only at c
          clear hz
          go_wp2_with fail
          refine c.mono ?_
          rintro x w3 ⟨rfl, hR2, hb⟩
          replace hB := hB.trans (hb.below hps hB.size)
          replace hr := hr.but hb hP
          clear hb c hR
          go_wp2_with fail
          refine (wireText_any n _ (by omega) hr.sane.1).mono ?_
          rintro x w4 ⟨rfl, hb⟩
          replace hB := below_next hB hb
          replace hr := hr.below hb
          replace hR2 := hR2.below hb
          clear hb
          generalize wText n = A at HT
          subst HT
          have e2 : (⟨(A ++ q).toArray⟩ : ByteArray).extract 0 A.length = ⟨A.toArray⟩ := canon_pre rfl
          have e3 : (⟨q.toArray⟩ : ByteArray).size = q.length := by simp [ByteArray.size]
          have ew : IntKind.i64.wrap (((A.length : Int) + q.length) - q.length) = A.length := by rw [Int.add_sub_cancel]; exact IntWalk.i64_in _ (by rw [List.length_append] at htl; omega)
          rw [List.length_append] at htz htl
          have cb := bad_any p _ _ _ hR2
          have cl := left_any p _ _ _ hR2
          rw [if_neg (by decide), e3] at cl
          have e4 : (⟨A.toArray⟩ : ByteArray).size = A.length := by simp [ByteArray.size]
          clear e3
          go_wp2_with fail
          refine cb.mono ?_
          rintro x _ ⟨rfl, rfl⟩
          go_wp2_with fail
          refine cl.mono ?_
          rintro x _ ⟨rfl, rfl⟩
          go_wp2_with fail
          refine cb.mono ?_
          rintro x _ ⟨rfl, rfl⟩
          go_wp2_with fail
          (try go_roundw)
          case rel => exact ⟨2, by omega, by go_num, hB, hr⟩
          case measure => simp [RowKit.intOf]
      · go_wp2_with fail
        refine (new_any _ wr).mono ?_
        rintro x w2 ⟨p, rfl, hp, hR, hb⟩
        have hP := hr.past hp
        have hps : w.heap.size ≤ p := Nat.le_trans hB.size hp
        replace hB := below_next hB hb
        replace hr := hr.below hb
        clear hb hp
        have hpl := hR.lt
        have c := rdInts_any p hP t (by omega) false w2 hR hr.sane hr.errs
        rw [if_neg (by decide)] at c
        change Calls _ _ _ _ (ReadsL p _ _ (intsP t) _) at c
        rcases hz : intsP t with _ | ⟨n, q⟩
        · rw [hz] at c
          unfold ReadsL at c
          dsimp only at c
          clear hz
          go_wp2_with fail
          refine c.mono ?_
          rintro x w3 ⟨rfl, hR2, hb⟩
          replace hB := hB.trans (hb.below hps hB.size)
          replace hr := hr.but hb hP
          clear hb c hR
          go_wp2_with fail
          refine (wireInts_nil _).mono ?_
          rintro x w4 ⟨rfl, hb⟩
          replace hB := below_next hB hb
          replace hr := hr.below hb
          replace hR2 := hR2.below hb
          clear hb
          have cb := bad_any p _ _ _ hR2
          have cl := left_any p _ _ _ hR2
          rw [if_pos rfl] at cl
          go_wp2_with fail
          refine cb.mono ?_
          rintro x _ ⟨rfl, rfl⟩
          go_wp2_with fail
          refine cb.mono ?_
          rintro x _ ⟨rfl, rfl⟩
          go_wp2_with fail
          refine cl.mono ?_
          rintro x _ ⟨rfl, rfl⟩
          go_wp2_with fail
          (try go_roundw)
          case rel => exact ⟨3, by omega, by go_num, hB, hr⟩
          case measure => simp [RowKit.intOf]
        · rw [hz] at c
          have HT := intsP_some hz
          have HF := intsP_fits hz
          have HL := intsP_len hz
          unfold ReadsL at c
          dsimp only at c
          clear hz
          go_wp2_with fail
          refine c.mono ?_
          rintro x w3 ⟨v, rfl, hv, hR2, hb⟩
          replace hB := hB.trans (hb.below hps hB.size)
          replace hr := hr.but hb hP
          clear hb c hR
          go_wp2_with fail
          refine (wireIntsV_any _ n (by omega) _ (intsV_own hv HF) hr.sane.1).mono ?_
          rintro x w4 ⟨rfl, hb⟩
          replace hB := below_next hB hb
          replace hr := hr.below hb
          replace hR2 := hR2.below hb
          clear hb
          generalize wInts n = A at HT
          subst HT
          have e2 : (⟨(A ++ q).toArray⟩ : ByteArray).extract 0 A.length = ⟨A.toArray⟩ := canon_pre rfl
          have e3 : (⟨q.toArray⟩ : ByteArray).size = q.length := by simp [ByteArray.size]
          have ew : IntKind.i64.wrap (((A.length : Int) + q.length) - q.length) = A.length := by rw [Int.add_sub_cancel]; exact IntWalk.i64_in _ (by rw [List.length_append] at htl; omega)
          rw [List.length_append] at htz htl
          have cb := bad_any p _ _ _ hR2
          have cl := left_any p _ _ _ hR2
          rw [if_neg (by decide), e3] at cl
          have e4 : (⟨A.toArray⟩ : ByteArray).size = A.length := by simp [ByteArray.size]
          clear e3
          go_wp2_with fail
          refine cb.mono ?_
          rintro x _ ⟨rfl, rfl⟩
          go_wp2_with fail
          refine cl.mono ?_
          rintro x _ ⟨rfl, rfl⟩
          go_wp2_with fail
          refine cb.mono ?_
          rintro x _ ⟨rfl, rfl⟩
          go_wp2_with fail
          (try go_roundw)
          case rel => exact ⟨3, by omega, by go_num, hB, hr⟩
          case measure => simp [RowKit.intOf]
      · go_wp2_with fail
        refine (new_any _ wr).mono ?_
        rintro x w2 ⟨p, rfl, hp, hR, hb⟩
        have hP := hr.past hp
        have hps : w.heap.size ≤ p := Nat.le_trans hB.size hp
        replace hB := below_next hB hb
        replace hr := hr.below hb
        clear hb hp
        have hpl := hR.lt
        have c := rdTexts_any p hP t (by omega) false w2 hR hr.sane hr.errs
        rw [if_neg (by decide)] at c
        change Calls _ _ _ _ (ReadsL p _ _ (txtsP t) _) at c
        rcases hz : txtsP t with _ | ⟨n, q⟩
        · rw [hz] at c
          unfold ReadsL at c
          dsimp only at c
          clear hz
          go_wp2_with fail
          refine c.mono ?_
          rintro x w3 ⟨rfl, hR2, hb⟩
          replace hB := hB.trans (hb.below hps hB.size)
          replace hr := hr.but hb hP
          clear hb c hR
          go_wp2_with fail
          refine (wireTexts_nil _).mono ?_
          rintro x w4 ⟨rfl, hb⟩
          replace hB := below_next hB hb
          replace hr := hr.below hb
          replace hR2 := hR2.below hb
          clear hb
          have cb := bad_any p _ _ _ hR2
          have cl := left_any p _ _ _ hR2
          rw [if_pos rfl] at cl
          go_wp2_with fail
          refine cb.mono ?_
          rintro x _ ⟨rfl, rfl⟩
          go_wp2_with fail
          refine cb.mono ?_
          rintro x _ ⟨rfl, rfl⟩
          go_wp2_with fail
          refine cl.mono ?_
          rintro x _ ⟨rfl, rfl⟩
          go_wp2_with fail
          (try go_roundw)
          case rel => exact ⟨4, by omega, by go_num, hB, hr⟩
          case measure => simp [RowKit.intOf]
        · rw [hz] at c
          have HT := txtsP_some hz
          have HF := txtsP_short hz
          have HL := txtsP_len hz
          unfold ReadsL at c
          dsimp only at c
          clear hz
          go_wp2_with fail
          refine c.mono ?_
          rintro x w3 ⟨v, rfl, hv, hR2, hb⟩
          replace hB := hB.trans (hb.below hps hB.size)
          replace hr := hr.but hb hP
          clear hb c hR
          go_wp2_with fail
          refine (wireTextsV_any _ n (by omega) _ (txtsV_own hv (fun x hx => by have := HF x hx; omega)) hr.sane.1).mono ?_
          rintro x w4 ⟨rfl, hb⟩
          replace hB := below_next hB hb
          replace hr := hr.below hb
          replace hR2 := hR2.below hb
          clear hb
          generalize wTexts n = A at HT
          subst HT
          have e2 : (⟨(A ++ q).toArray⟩ : ByteArray).extract 0 A.length = ⟨A.toArray⟩ := canon_pre rfl
          have e3 : (⟨q.toArray⟩ : ByteArray).size = q.length := by simp [ByteArray.size]
          have ew : IntKind.i64.wrap (((A.length : Int) + q.length) - q.length) = A.length := by rw [Int.add_sub_cancel]; exact IntWalk.i64_in _ (by rw [List.length_append] at htl; omega)
          rw [List.length_append] at htz htl
          have cb := bad_any p _ _ _ hR2
          have cl := left_any p _ _ _ hR2
          rw [if_neg (by decide), e3] at cl
          have e4 : (⟨A.toArray⟩ : ByteArray).size = A.length := by simp [ByteArray.size]
          clear e3
          go_wp2_with fail
          refine cb.mono ?_
          rintro x _ ⟨rfl, rfl⟩
          go_wp2_with fail
          refine cl.mono ?_
          rintro x _ ⟨rfl, rfl⟩
          go_wp2_with fail
          refine cb.mono ?_
          rintro x _ ⟨rfl, rfl⟩
          go_wp2_with fail
          (try go_roundw)
          case rel => exact ⟨4, by omega, by go_num, hB, hr⟩
          case measure => simp [RowKit.intOf]
    · obtain rfl : k = 4 := by omega
      go_wp2_with fail
      go_ret
      exact ⟨rfl, hB⟩
end Go.Proofs.YtfnlihadibnnoaaDoor
