/- What a reader's Int and Text do to what is left, in both packages; a decoded entry. -/
import Derived.Test.YtnkbelbalaeieaaDoorVRr
import Derived.Test.YtnkbelbalaeieaaDoorMade
import Derived.Test.YtnkbelbalaeieaaDoorSgn0
namespace Go.Proofs.YtnkbelbalaeieaaDoor
open Go Go.RowKit Go.Sort Go.Lib

/-- An Int, a Text, of what is left (nothing: the reader is bad). -/
def stI : Option (List UInt8) → Int × Option (List UInt8)
  | none => (0, none)
  | some r => match Wr.intP r with
    | some (n, r') => (n, some r')
    | none => (0, none)
def stT : Option (List UInt8) → ByteArray × Option (List UInt8)
  | none => (⟨#[]⟩, none)
  | some r => match Wr.txtP r with
    | some (t, r') => (t, some r')
    | none => (⟨#[]⟩, none)
/-- A reader of the project. -/
def RdSt (w : World) (p : Nat) : Option (List UInt8) → Prop
  | some r => Wr.RdAt w p ⟨r.toArray⟩ false ∧ r.length ≤ 1000000
  | none => Wr.RdAt w p ⟨#[]⟩ true
/-- A reader of the reference. -/
def RfSt (w : World) (p : Nat) (s : ByteArray) : Option (List UInt8) → Prop
  | some r => ∃ k, k ≤ s.size ∧ r = s.data.toList.drop k ∧ Wr.RfAt w p s k false
  | none => ∃ k, k ≤ s.size ∧ Wr.RfAt w p s k true
def StPost (p : Nat) (R : World → Prop) (v : Value) (w : World) (x : Ending) (w' : World) : Prop := x = .returned v ∧ R w' ∧ Wr.But p w w'

theorem stInt_any (p : Nat) (hp : Wr.Past p) (st : Option (List UInt8)) (w : World) (h : RdSt w p st) (ht : Wr.Sane w) (he : Wr.ErrVars w) :
    Calls Tryd.prog 68 #[.pointer (some ⟨p, 0, none⟩)] w (StPost p (fun w' => RdSt w' p (stI st).2) (.int .i64 (stI st).1) w) := by
  cases st with
  | none =>
    refine (Wr.rdInt_any p hp ⟨#[]⟩ (by decide) true w h ht he).mono fun x w' hR => ?_
    rw [if_pos rfl] at hR
    exact hR
  | some r =>
    have hl := h.2
    refine (Wr.rdInt_any p hp ⟨r.toArray⟩ (by show r.length ≤ _; omega) false w h.1 ht he).mono fun x w' hR => ?_
    rw [if_neg (by decide)] at hR
    simp only at hR
    unfold stI
    simp only
    change Wr.Reads p _ _ (Wr.intP r) w x w' at hR
    rcases hz : Wr.intP r with _ | ⟨n, r'⟩
    · rw [hz] at hR; exact hR
    · rw [hz] at hR
      have hlen := congrArg List.length (Wr.intP_some hz).1
      rw [List.length_append] at hlen
      exact ⟨hR.1, ⟨hR.2.1, by omega⟩, hR.2.2⟩
theorem stText_any (p : Nat) (hp : Wr.Past p) (st : Option (List UInt8)) (w : World) (h : RdSt w p st) (ht : Wr.Sane w) (he : Wr.ErrVars w) :
    Calls Tryd.prog 69 #[.pointer (some ⟨p, 0, none⟩)] w (StPost p (fun w' => RdSt w' p (stT st).2) (.string (stT st).1) w) := by
  cases st with
  | none =>
    refine (Wr.rdText_any p hp ⟨#[]⟩ (by decide) true w h ht he).mono fun x w' hR => ?_
    rw [if_pos rfl] at hR
    exact hR
  | some r =>
    have hl := h.2
    refine (Wr.rdText_any p hp ⟨r.toArray⟩ (by show r.length ≤ _; omega) false w h.1 ht he).mono fun x w' hR => ?_
    rw [if_neg (by decide)] at hR
    simp only at hR
    unfold stT
    simp only
    rcases hz : Wr.textP r with _ | ⟨t, r'⟩
    · have h2 : Wr.txtP r = none := by unfold Wr.txtP; rw [hz]; rfl
      rw [hz] at hR; rw [h2]; exact hR
    · have h2 : Wr.txtP r = some (⟨t.toArray⟩, r') := by unfold Wr.txtP; rw [hz]; rfl
      rw [hz] at hR; rw [h2]
      have hlen := congrArg List.length (Wr.txtP_some h2).1
      rw [List.length_append] at hlen
      exact ⟨hR.1, ⟨hR.2.1, by omega⟩, hR.2.2⟩
theorem rstInt_any (p : Nat) (s : ByteArray) (hs : s.size ≤ 100000000) (st : Option (List UInt8)) (w : World) (h : RfSt w p s st) :
    Calls Tryd.prog 73 #[.pointer (some ⟨p, 0, none⟩)] w (StPost p (fun w' => RfSt w' p s (stI st).2) (.int .i64 (stI st).1) w) := by
  cases st with
  | none =>
    obtain ⟨k, hk, h⟩ := h
    refine (Wr.rfInt_any p s hs k hk true w h).mono fun x w' hR => ?_
    rw [if_pos rfl] at hR
    exact hR
  | some r =>
    obtain ⟨k, hk, rfl, h⟩ := h
    refine (Wr.rfInt_any p s hs k hk false w h).mono fun x w' hR => ?_
    rw [if_neg (by decide)] at hR
    unfold stI
    simp only
    rcases hz : Wr.intP (s.data.toList.drop k) with _ | ⟨n, r'⟩
    · rw [hz] at hR; exact hR
    · rw [hz] at hR; exact hR
theorem rstText_any (p : Nat) (s : ByteArray) (hs : s.size ≤ 100000000) (st : Option (List UInt8)) (w : World) (h : RfSt w p s st) :
    Calls Tryd.prog 74 #[.pointer (some ⟨p, 0, none⟩)] w (StPost p (fun w' => RfSt w' p s (stT st).2) (.string (stT st).1) w) := by
  cases st with
  | none =>
    obtain ⟨k, hk, h⟩ := h
    refine (Wr.rfText_any p s hs k hk true w h).mono fun x w' hR => ?_
    rw [if_pos rfl] at hR
    exact hR
  | some r =>
    obtain ⟨k, hk, rfl, h⟩ := h
    refine (Wr.rfText_any p s hs k hk false w h).mono fun x w' hR => ?_
    rw [if_neg (by decide)] at hR
    unfold stT
    simp only
    rcases hz : Wr.txtP (s.data.toList.drop k) with _ | ⟨n, r'⟩
    · rw [hz] at hR; exact hR
    · rw [hz] at hR; exact hR
/-- How many bytes are left. -/
def leftN : Option (List UInt8) → Int
  | some r => r.length
  | none => 0
theorem stBad_any (p : Nat) (st : Option (List UInt8)) (w : World) (h : RdSt w p st) : Calls Tryd.prog 70 #[.pointer (some ⟨p, 0, none⟩)] w fun x w' => x = .returned (.bool st.isNone) ∧ w = w' := by
  cases st with
  | none => exact Wr.bad_any p ⟨#[]⟩ true w h
  | some r => exact Wr.bad_any p _ false w h.1
theorem stLeft_any (p : Nat) (st : Option (List UInt8)) (w : World) (h : RdSt w p st) : Calls Tryd.prog 71 #[.pointer (some ⟨p, 0, none⟩)] w fun x w' => x = .returned (.int .i64 (leftN st)) ∧ w = w' := by
  cases st with
  | none => exact Wr.left_any p ⟨#[]⟩ true w h
  | some r => exact Wr.left_any p _ false w h.1
theorem rstBad_any (p : Nat) (s : ByteArray) (st : Option (List UInt8)) (w : World) (h : RfSt w p s st) : Calls Tryd.prog 75 #[.pointer (some ⟨p, 0, none⟩)] w fun x w' => x = .returned (.bool st.isNone) ∧ w = w' := by
  cases st with
  | none => obtain ⟨k, hk, h⟩ := h; exact Wr.rfBad_any p s k true w h
  | some r => obtain ⟨k, hk, -, h⟩ := h; exact Wr.rfBad_any p s k false w h
theorem rstLeft_any (p : Nat) (s : ByteArray) (hs : s.size ≤ 100000000) (st : Option (List UInt8)) (w : World) (h : RfSt w p s st) : Calls Tryd.prog 76 #[.pointer (some ⟨p, 0, none⟩)] w fun x w' => x = .returned (.int .i64 (leftN st)) ∧ RowKit.Below w.heap.size w w' := by
  cases st with
  | none => obtain ⟨k, hk, h⟩ := h; exact Wr.rfLeft_any p s hs k hk true w h
  | some r =>
    obtain ⟨k, hk, rfl, h⟩ := h
    refine (Wr.rfLeft_any p s hs k hk false w h).mono fun x w' hR => ⟨hR.1.trans ?_, hR.2⟩
    rw [if_neg (by decide)]
    have hz := ba_size s
    show _ = Ending.returned (.int .i64 ((s.data.toList.drop k).length : Int))
    rw [List.length_drop, ← hz]
    congr 2
    omega
/-- What is read, and what is left. -/
def decE (s0 : Option (List UInt8)) : Ent × Option (List UInt8) :=
  let a1 := stI s0; let a2 := stI a1.2; let a3 := stI a2.2; let a4 := stI a3.2; let a5 := stI a4.2; let a6 := stI a5.2
  let a7 := stT a6.2
  let a8 := stI a7.2; let a9 := stI a8.2; let a10 := stI a9.2; let a11 := stI a10.2; let a12 := stI a11.2; let a13 := stI a12.2; let a14 := stI a13.2
  let a15 := stT a14.2
  (⟨a1.1, a2.1, a3.1, a4.1, a5.1, a6.1, a7.1, a8.1, a9.1, a10.1, a11.1, a12.1, a13.1, a14.1, a15.1⟩, a15.2)
theorem decE_steps {t0 t1 t2 t3 t4 t5 t6 t7 t8 t9 t10 t11 t12 t13 t14 t15 : Option (List UInt8)} {n1 n2 n3 n4 n5 n6 n8 n9 n10 n11 n12 n13 n14 : Int} {n7 n15 : ByteArray} (h1 : stI t0 = (n1, t1)) (h2 : stI t1 = (n2, t2)) (h3 : stI t2 = (n3, t3)) (h4 : stI t3 = (n4, t4)) (h5 : stI t4 = (n5, t5)) (h6 : stI t5 = (n6, t6)) (h7 : stT t6 = (n7, t7)) (h8 : stI t7 = (n8, t8)) (h9 : stI t8 = (n9, t9)) (h10 : stI t9 = (n10, t10)) (h11 : stI t10 = (n11, t11)) (h12 : stI t11 = (n12, t12)) (h13 : stI t12 = (n13, t13)) (h14 : stI t13 = (n14, t14)) (h15 : stT t14 = (n15, t15)) :
    decE t0 = (⟨n1, n2, n3, n4, n5, n6, n7, n8, n9, n10, n11, n12, n13, n14, n15⟩, t15) := by
  unfold decE
  simp only [h1, h2, h3, h4, h5, h6, h7, h8, h9, h10, h11, h12, h13, h14, h15]
theorem stI_int {n : Int} (hn : I64 n) (r : List UInt8) : stI (some (wInt n ++ r)) = (n, some r) := by
  unfold stI
  simp only
  rw [Wr.intP_int hn r]
theorem stT_text {t : ByteArray} (ht : t.size ≤ 100000) (r : List UInt8) : stT (some (wText t ++ r)) = (t, some r) := by
  unfold stT
  simp only
  rw [Wr.txtP_text (by omega) r]
/-- What Encode wrote is read again. -/
theorem decE_code (e : Ent) (h : e.Ok) : decE (some e.code) = (e, some []) := by
  have hc : e.code = wInt e.id ++ (wInt e.school ++ (wInt e.student ++ (wInt e.kind ++ (wInt e.day ++ (wInt e.on ++ (wText e.course ++ (wInt e.credits ++ (wInt e.grade ++ (wInt e.ref ++ (wInt e.fro ++ (wInt e.programme ++ (wInt e.version ++ (wInt e.key ++ (wText e.mark ++ [])))))))))))))) := by
    simp [Ent.code, Ent.body, wInts, Ent.ints1, Ent.ints2]
  rw [hc]
  exact decE_steps (stI_int h.id _) (stI_int h.school _) (stI_int h.student _) (stI_int h.kind _) (stI_int h.day _) (stI_int h.on _) (stT_text h.course _) (stI_int h.credits _) (stI_int h.grade _) (stI_int h.ref _) (stI_int h.fro _) (stI_int h.programme _) (stI_int h.version _) (stI_int h.key _) (stT_text h.mark _)
/-- What Decode returns. -/
def decR (s : List UInt8) : Ent × Int := if 262144 < s.length then (entZ, 2) else if (decE (some s)).2 = some [] then ((decE (some s)).1, 0) else (entZ, 4)
def decV (s : List UInt8) : Value := .tuple #[(decR s).1.val, .int .i64 (decR s).2]
theorem decR_code (e : Ent) (h : e.Ok) (hl : e.code.length ≤ 262144) : decR e.code = (e, 0) := by
  unfold decR
  rw [if_neg (by omega), decE_code e h, if_pos rfl]
end Go.Proofs.YtnkbelbalaeieaaDoor
