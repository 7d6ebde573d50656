/- The law RequestCodes, walked: it returns true. -/
import Derived.Test.YtanmmooflhomoaaGreatDoorRqStP
import Derived.Test.YtanmmooflhomoaaGreatDoorRqJs
import Derived.Test.YtanmmooflhomoaaGreatDoorVRr
import Derived.Test.YtanmmooflhomoaaGreatDoorRqMdA
import Derived.Test.YtanmmooflhomoaaGreatDoorVTxt
import Derived.Test.YtanmmooflhomoaaGreatDoorRqCut
import Derived.Test.YtanmmooflhomoaaGreatDoorRqMis
import Derived.Deep.DeepCutAuto
import Derived.BigRegion
/- Readers as plain functions; requests read; what decoding must answer (plain law). -/
namespace Go.Proofs.YtanmmooflhomoaaGreatDoor
open Go Go.Proofs Go.RowKit Go.Sort Go.Lib

/-- A reader: whether it is bad, and what is left. -/
abbrev RSt := Bool × List UInt8
def rdI (z : RSt) : Int × RSt := if z.1 = true then (0, (true, [])) else match Wr.intP z.2 with | some (n, r) => (n, (false, r)) | none => (0, (true, []))
def rdT (z : RSt) : ByteArray × RSt := if z.1 = true then (⟨#[]⟩, (true, [])) else match Wr.txtP z.2 with | some (t, r) => (t, (false, r)) | none => (⟨#[]⟩, (true, []))
theorem rdI_int {n : Int} (h : I64 n) (r : List UInt8) : rdI (false, wInt n ++ r) = (n, (false, r)) := by
  unfold rdI
  simp only [Bool.false_eq_true, if_false]
  rw [Wr.intP_int h]
theorem rdT_text {t : ByteArray} (h : t.size ≤ 100000) (r : List UInt8) : rdT (false, wText t ++ r) = (t, (false, r)) := by
  unfold rdT
  simp only [Bool.false_eq_true, if_false]
  rw [Wr.txtP_text (by omega)]
theorem rdI_some {z : RSt} (h : (rdI z).2.1 = false) : z.1 = false ∧ z.2 = wInt (rdI z).1 ++ (rdI z).2.2 := by
  obtain ⟨b, s⟩ := z
  unfold rdI at h ⊢
  cases b
  · simp only [Bool.false_eq_true, if_false] at h ⊢
    rcases hn : Wr.intP s with _ | ⟨n, r⟩
    · rw [hn] at h; cases h
    · exact ⟨trivial, (Wr.intP_some hn).1⟩
  · simp at h
theorem rdT_some {z : RSt} (h : (rdT z).2.1 = false) : z.1 = false ∧ z.2 = wText (rdT z).1 ++ (rdT z).2.2 := by
  obtain ⟨b, s⟩ := z
  unfold rdT at h ⊢
  cases b
  · simp only [Bool.false_eq_true, if_false] at h ⊢
    rcases hn : Wr.txtP s with _ | ⟨n, r⟩
    · rw [hn] at h; cases h
    · exact ⟨trivial, (Wr.txtP_some hn).1⟩
  · simp at h
theorem rdI_i64 (z : RSt) : I64 (rdI z).1 := by
  obtain ⟨b, s⟩ := z
  unfold rdI
  cases b
  · simp only [Bool.false_eq_true, if_false]
    rcases hn : Wr.intP s with _ | ⟨n, r⟩
    · show I64 (0 : Int)
      unfold I64; omega
    · exact (Wr.intP_some hn).2
  · unfold I64; simp
theorem rdT_size (z : RSt) : (rdT z).1.size ≤ z.2.length := by
  obtain ⟨b, s⟩ := z
  unfold rdT
  cases b
  · simp only [Bool.false_eq_true, if_false]
    rcases hn : Wr.txtP s with _ | ⟨n, r⟩
    · exact Nat.zero_le _
    · exact (Wr.txtP_some hn).2
  · exact Nat.zero_le _
theorem rdI_len (z : RSt) : (rdI z).2.2.length ≤ z.2.length := by
  by_cases h : (rdI z).2.1 = false
  · have := congrArg List.length (rdI_some h).2; simp at this; omega
  · have : (rdI z).2.2 = [] := by
      obtain ⟨b, s⟩ := z
      unfold rdI at h ⊢
      cases b
      · simp only [Bool.false_eq_true, if_false] at h ⊢
        rcases hn : Wr.intP s with _ | ⟨n, r⟩
        · rfl
        · rw [hn] at h; simp at h
      · rfl
    rw [this]; simp
theorem rdT_len (z : RSt) : (rdT z).2.2.length ≤ z.2.length := by
  by_cases h : (rdT z).2.1 = false
  · have := congrArg List.length (rdT_some h).2; simp at this; omega
  · have : (rdT z).2.2 = [] := by
      obtain ⟨b, s⟩ := z
      unfold rdT at h ⊢
      cases b
      · simp only [Bool.false_eq_true, if_false] at h ⊢
        rcases hn : Wr.txtP s with _ | ⟨n, r⟩
        · rfl
        · rw [hn] at h; simp at h
      · rfl
    rw [this]; simp
/-- One request, its number for 'cancel', and the reader behind it. -/
structure Got where
  z0 : RSt
def Got.a0 (g : Got) := rdI g.z0
def Got.a1 (g : Got) := rdI g.a0.2
def Got.a2 (g : Got) := rdI g.a1.2
def Got.a3 (g : Got) := rdI g.a2.2
def Got.a4 (g : Got) := rdI g.a3.2
def Got.a5 (g : Got) := rdT g.a4.2
def Got.a6 (g : Got) := rdT g.a5.2
def Got.a7 (g : Got) := rdI g.a6.2
def Got.a8 (g : Got) := rdI g.a7.2
def Got.req (g : Got) : Req := ⟨g.a0.1, g.a1.1, g.a2.1 == 1, g.a3.1, g.a4.1, g.a5.1, g.a6.1, g.a7.1, g.a8.1⟩
theorem Got.len (g : Got) : g.a8.2.2.length ≤ g.z0.2.length :=
  Nat.le_trans (rdI_len _) (Nat.le_trans (rdI_len _) (Nat.le_trans (rdT_len _) (Nat.le_trans (rdT_len _) (Nat.le_trans (rdI_len _) (Nat.le_trans (rdI_len _) (Nat.le_trans (rdI_len _) (Nat.le_trans (rdI_len _) (rdI_len _))))))))
theorem Got.ok (g : Got) (h : g.z0.2.length ≤ 100000) : g.req.Ok := by
  have l5 : g.a4.2.2.length ≤ 100000 := Nat.le_trans (rdI_len _) (Nat.le_trans (rdI_len _) (Nat.le_trans (rdI_len _) (Nat.le_trans (rdI_len _) (Nat.le_trans (rdI_len _) h))))
  have l6 : g.a5.2.2.length ≤ 100000 := Nat.le_trans (rdT_len _) l5
  exact ⟨rdI_i64 _, rdI_i64 _, rdI_i64 _, rdI_i64 _, rdI_i64 _, rdI_i64 _, Nat.le_trans (rdT_size _) l5, Nat.le_trans (rdT_size _) l6⟩
theorem Got.sound (g : Got) (h : g.a8.2.1 = false) (hc : g.a2.1 = truthN g.req.cancel) : g.z0.1 = false ∧ g.z0.2 = encR1 g.req ++ g.a8.2.2 ∧ g.a8.2.2.length < g.z0.2.length := by
  obtain ⟨b7, e8⟩ := rdI_some h
  obtain ⟨b6, e7⟩ := rdI_some b7
  obtain ⟨b5, e6⟩ := rdT_some b6
  obtain ⟨b4, e5⟩ := rdT_some b5
  obtain ⟨b3, e4⟩ := rdI_some b4
  obtain ⟨b2, e3⟩ := rdI_some b3
  obtain ⟨b1, e2⟩ := rdI_some b2
  obtain ⟨b0, e1⟩ := rdI_some b1
  obtain ⟨bz, e0⟩ := rdI_some b0
  refine ⟨bz, ?_⟩
  have e : g.z0.2 = encR1 g.req ++ g.a8.2.2 := by
    simp only [encR1, Req.ints1, Req.ints2, wInts, List.flatMap_cons, List.flatMap_nil, List.append_nil, List.append_assoc]
    rw [← hc]
    rw [e0]; congr 1
    show g.a0.2.2 = _
    rw [e1]; congr 1
    show g.a1.2.2 = _
    rw [e2]; congr 1
    show g.a2.2.2 = _
    rw [e3]; congr 1
    show g.a3.2.2 = _
    rw [e4]; congr 1
    show g.a4.2.2 = _
    rw [e5]; congr 1
    show g.a5.2.2 = _
    rw [e6]; congr 1
    show g.a6.2.2 = _
    rw [e7]; congr 1
  refine ⟨e, ?_⟩
  have h1 := congrArg List.length e
  have h2 : 0 < (encR1 g.req).length := by
    simp [encR1, Req.ints1, wInts, wInt]
    omega
  rw [List.length_append] at h1
  omega
theorem got_enc (x : Req) (h : x.Ok) (r : List UInt8) : (Got.mk (false, encR1 x ++ r)).req = x ∧ (Got.mk (false, encR1 x ++ r)).a2.1 = truthN x.cancel ∧ (Got.mk (false, encR1 x ++ r)).a8.2 = (false, r) := by
  have e : (encR1 x ++ r) = wInt x.server ++ (wInt x.seq ++ (wInt (truthN x.cancel) ++ (wInt x.student ++ (wInt x.term ++ (wText x.code ++ (wText x.give ++ (wInt x.priority ++ (wInt x.day ++ r)))))))) := by
    simp only [encR1, Req.ints1, Req.ints2, wInts, List.flatMap_cons, List.flatMap_nil, List.append_nil, List.append_assoc]
  have ht : I64 (truthN x.cancel) := by unfold truthN I64; split <;> omega
  rw [e]
  have h0 : (Got.mk (false, wInt x.server ++ (wInt x.seq ++ (wInt (truthN x.cancel) ++ (wInt x.student ++ (wInt x.term ++ (wText x.code ++ (wText x.give ++ (wInt x.priority ++ (wInt x.day ++ r))))))))) ).a0 = (x.server, (false, wInt x.seq ++ (wInt (truthN x.cancel) ++ (wInt x.student ++ (wInt x.term ++ (wText x.code ++ (wText x.give ++ (wInt x.priority ++ (wInt x.day ++ r))))))))) := rdI_int h.server _
  generalize Got.mk _ = g at h0 ⊢
  have h1 : g.a1 = (x.seq, (false, wInt (truthN x.cancel) ++ (wInt x.student ++ (wInt x.term ++ (wText x.code ++ (wText x.give ++ (wInt x.priority ++ (wInt x.day ++ r)))))))) := by unfold Got.a1; rw [h0]; exact rdI_int h.seq _
  have h2 : g.a2 = (truthN x.cancel, (false, wInt x.student ++ (wInt x.term ++ (wText x.code ++ (wText x.give ++ (wInt x.priority ++ (wInt x.day ++ r))))))) := by unfold Got.a2; rw [h1]; exact rdI_int ht _
  have h3 : g.a3 = (x.student, (false, wInt x.term ++ (wText x.code ++ (wText x.give ++ (wInt x.priority ++ (wInt x.day ++ r)))))) := by unfold Got.a3; rw [h2]; exact rdI_int h.student _
  have h4 : g.a4 = (x.term, (false, wText x.code ++ (wText x.give ++ (wInt x.priority ++ (wInt x.day ++ r))))) := by unfold Got.a4; rw [h3]; exact rdI_int h.term _
  have h5 : g.a5 = (x.code, (false, wText x.give ++ (wInt x.priority ++ (wInt x.day ++ r)))) := by unfold Got.a5; rw [h4]; exact rdT_text h.code _
  have h6 : g.a6 = (x.give, (false, wInt x.priority ++ (wInt x.day ++ r))) := by unfold Got.a6; rw [h5]; exact rdT_text h.give _
  have h7 : g.a7 = (x.priority, (false, wInt x.day ++ r)) := by unfold Got.a7; rw [h6]; exact rdI_int h.priority _
  have h8 : g.a8 = (x.day, (false, r)) := by unfold Got.a8; rw [h7]; exact rdI_int h.day _
  refine ⟨?_, by rw [h2], by rw [h8]⟩
  unfold Got.req
  rw [h0, h1, h2, h3, h4, h5, h6, h7, h8]
  cases x with
  | mk a b c d e f g' p q => cases c <;> rfl
/-- What decoding answers: the list that is written so, or an error. -/
def DecPost (s : List UInt8) (w : World) (e : Ending) (w' : World) : Prop :=
  ((∃ v L, e = .returned (.tuple #[v, .int .i64 0]) ∧ s = encL L ∧ (∀ r ∈ L, r.Ok) ∧ L.length ≤ 100001 ∧ ReqsIn w' v L) ∨ (e = .returned (.tuple #[.slice none 0 0, .int .i64 4]) ∧ ¬ ∃ L, (∀ r ∈ L, r.Ok) ∧ s = encL L)) ∧ RowKit.Below w.heap.size w w'
/-- If it was written, where the reader stands behind k of them. -/
def OnWay (s : List UInt8) (many : Int) (k : Nat) (l : List Req) (z : RSt) : Prop :=
  ∀ L, (∀ r ∈ L, r.Ok) → L.length ≤ 100001 → s = encL L → many = L.length ∧ z.1 = false ∧ l = L.take k ∧ z.2 = (L.drop k).flatMap encR1
theorem onWay_start (s : List UInt8) : OnWay s (rdI (false, s)).1 0 [] (rdI (false, s)).2 := by
  intro L hL hl e
  subst e
  rw [show encL L = wInt L.length ++ L.flatMap encR1 from rfl, rdI_int (by unfold I64; omega)]
  exact ⟨rfl, rfl, by simp, by simp⟩
theorem onWay_next {s : List UInt8} {many : Int} {k : Nat} {l : List Req} {z : RSt} (h : OnWay s many k l z) (hk : (k : Int) < many) : OnWay s many (k + 1) (l ++ [(Got.mk z).req]) (Got.mk z).a8.2 ∧ ∀ L, (∀ r ∈ L, r.Ok) → L.length ≤ 100001 → s = encL L → (Got.mk z).a2.1 = truthN (Got.mk z).req.cancel := by
  have key : ∀ L, (∀ r ∈ L, r.Ok) → L.length ≤ 100001 → s = encL L → ∃ x, L[k]? = some x ∧ (Got.mk z).req = x ∧ (Got.mk z).a2.1 = truthN x.cancel ∧ (Got.mk z).a8.2 = (false, (L.drop (k + 1)).flatMap encR1) := by
    intro L hL hl e
    obtain ⟨h1, h2, h3, h4⟩ := h L hL hl e
    have hkl : k < L.length := by omega
    have hx := List.getElem?_eq_getElem hkl
    have hz : z = (false, encR1 L[k] ++ (L.drop (k + 1)).flatMap encR1) := by
      obtain ⟨b, r⟩ := z
      simp only at h2 h4
      rw [h2, h4, ← List.getElem_cons_drop hkl, List.flatMap_cons]
    have hg := got_enc L[k] (hL _ (List.getElem_mem hkl)) ((L.drop (k + 1)).flatMap encR1)
    rw [← hz] at hg
    exact ⟨L[k], hx, hg.1, hg.2.1, hg.2.2⟩
  refine ⟨fun L hL hl e => ?_, fun L hL hl e => ?_⟩
  · obtain ⟨h1, h2, h3, h4⟩ := h L hL hl e
    obtain ⟨x, hx, g1, _, g3⟩ := key L hL hl e
    exact ⟨h1, by rw [g3], by rw [g1, h3, take_snoc hx], by rw [g3]⟩
  · obtain ⟨x, hx, g1, g2, _⟩ := key L hL hl e
    rw [g2, g1]
end Go.Proofs.YtanmmooflhomoaaGreatDoor
/- The readers of both, in one form; what a round of Decode keeps. -/
namespace Go.Proofs.YtanmmooflhomoaaGreatDoor
open Go Go.Proofs Go.RowKit Go.Sort Go.Lib
attribute [local go_sem] Req.cells

/-- What a read comes to: the value, the reader's state, and nothing else moved. -/
def ReadPost (p : Nat) (R : World → RSt → Prop) (v : Value) (z : RSt) (w : World) (e : Ending) (w' : World) : Prop := e = .returned v ∧ R w' z ∧ Wr.But p w w'
/-- What a reader is depends on its block alone. -/
def Local (p : Nat) (R : World → RSt → Prop) : Prop := ∀ w w' z, R w z → w'.heap[p]? = w.heap[p]? → R w' z
def RdS (p : Nat) (w : World) (z : RSt) : Prop := Wr.RdAt w p ⟨z.2.toArray⟩ z.1
def RfS (s : ByteArray) (p : Nat) (w : World) (z : RSt) : Prop := ∃ k, k ≤ s.size ∧ Wr.RfAt w p s k z.1 ∧ z.2 = if z.1 = true then [] else s.data.toList.drop k
theorem cell_of_block {w w' : World} {p : Nat} (h : w'.heap[p]? = w.heap[p]?) (j : Nat) : w'.cell? ⟨p, j, none⟩ = w.cell? ⟨p, j, none⟩ ∧ w'.frozen? ⟨p, j, none⟩ = w.frozen? ⟨p, j, none⟩ := by
  simp only [World.cell?, World.frozen?]
  rw [h]; exact ⟨rfl, rfl⟩
theorem RdS.loc (p : Nat) : Local p (RdS p) := by
  rintro w w' z ⟨h0, h1, f0, f1⟩ h
  exact ⟨(cell_of_block h 0).1.trans h0, (cell_of_block h 1).1.trans h1, (cell_of_block h 0).2.trans f0, (cell_of_block h 1).2.trans f1⟩
theorem RfS.loc (s : ByteArray) (p : Nat) : Local p (RfS s p) := by
  rintro w w' z ⟨k, hk, ⟨⟨h0, h1, h2⟩, f0, f1, f2⟩, e⟩ h
  exact ⟨k, hk, ⟨⟨(cell_of_block h 0).1.trans h0, (cell_of_block h 1).1.trans h1, (cell_of_block h 2).1.trans h2⟩, (cell_of_block h 0).2.trans f0, (cell_of_block h 1).2.trans f1, (cell_of_block h 2).2.trans f2⟩, e⟩
theorem RdS.lt {p : Nat} {w : World} {z : RSt} (h : RdS p w z) : p < w.heap.size := Wr.RdAt.lt h
theorem RfS.lt {s : ByteArray} {p : Nat} {w : World} {z : RSt} (h : RfS s p w z) : p < w.heap.size := by
  obtain ⟨k, _, h, _⟩ := h
  exact h.lt

theorem rdInt_s (p : Nat) (hp : Wr.Past p) (z : RSt) (hz : z.2.length ≤ 1000000) (w : World) (h : RdS p w z) (ht : Wr.Sane w) (he : Wr.ErrVars w) :
    Calls Tryz.prog 37 #[.pointer (some ⟨p, 0, none⟩)] w (ReadPost p (RdS p) (.int .i64 (rdI z).1) (rdI z).2 w) := by
  refine (Wr.rdInt_any p hp ⟨z.2.toArray⟩ (by simp [ByteArray.size]; omega) z.1 w h ht he).mono fun e w' hr => ?_
  obtain ⟨b, s⟩ := z
  unfold rdI ReadPost RdS
  cases b
  · simp only [Bool.false_eq_true, if_false] at hr ⊢
    change Wr.Reads p _ _ (Wr.intP s) w e w' at hr
    rcases hn : Wr.intP s with _ | ⟨n, r⟩ <;> rw [hn] at hr <;> exact hr
  · exact hr
theorem rdText_s (p : Nat) (hp : Wr.Past p) (z : RSt) (hz : z.2.length ≤ 1000000) (w : World) (h : RdS p w z) (ht : Wr.Sane w) (he : Wr.ErrVars w) :
    Calls Tryz.prog 39 #[.pointer (some ⟨p, 0, none⟩)] w (ReadPost p (RdS p) (.string (rdT z).1) (rdT z).2 w) := by
  refine (Wr.rdText_any p hp ⟨z.2.toArray⟩ (by simp [ByteArray.size]; omega) z.1 w h ht he).mono fun e w' hr => ?_
  obtain ⟨b, s⟩ := z
  unfold rdT ReadPost RdS Wr.txtP
  cases b
  · simp only [Bool.false_eq_true, if_false] at hr ⊢
    change Wr.Reads p _ _ (Wr.textP s) w e w' at hr
    rcases hn : Wr.textP s with _ | ⟨n, r⟩ <;> rw [hn] at hr <;> exact hr
  · exact hr
theorem rfInt_s (p : Nat) (s : ByteArray) (hs : s.size ≤ 1000000) (z : RSt) (w : World) (h : RfS s p w z) :
    Calls Tryz.prog 44 #[.pointer (some ⟨p, 0, none⟩)] w (ReadPost p (RfS s p) (.int .i64 (rdI z).1) (rdI z).2 w) := by
  obtain ⟨k, hk, ha, hz⟩ := h
  refine (Wr.rfInt_any p s (by omega) k hk z.1 w ha).mono fun e w' hr => ?_
  obtain ⟨b, q⟩ := z
  unfold rdI ReadPost RfS
  cases b
  · simp only [Bool.false_eq_true, if_false] at hr hz ⊢
    subst hz
    rcases hn : Wr.intP (s.data.toList.drop k) with _ | ⟨n, r⟩
    · rw [hn] at hr
      obtain ⟨h1, ⟨k', h2, h3⟩, h4⟩ := hr
      exact ⟨h1, ⟨k', h2, h3, rfl⟩, h4⟩
    · rw [hn] at hr
      obtain ⟨h1, ⟨k', h2, h3, h5⟩, h4⟩ := hr
      exact ⟨h1, ⟨k', h2, h5, h3⟩, h4⟩
  · obtain ⟨h1, ⟨k', h2, h3⟩, h4⟩ := hr
    exact ⟨h1, ⟨k', h2, h3, rfl⟩, h4⟩
theorem rfText_s (p : Nat) (s : ByteArray) (hs : s.size ≤ 1000000) (z : RSt) (w : World) (h : RfS s p w z) :
    Calls Tryz.prog 46 #[.pointer (some ⟨p, 0, none⟩)] w (ReadPost p (RfS s p) (.string (rdT z).1) (rdT z).2 w) := by
  obtain ⟨k, hk, ha, hz⟩ := h
  refine (Wr.rfText_any p s (by omega) k hk z.1 w ha).mono fun e w' hr => ?_
  obtain ⟨b, q⟩ := z
  unfold rdT ReadPost RfS
  cases b
  · simp only [Bool.false_eq_true, if_false] at hr hz ⊢
    subst hz
    rcases hn : Wr.txtP (s.data.toList.drop k) with _ | ⟨n, r⟩
    · rw [hn] at hr
      obtain ⟨h1, ⟨k', h2, h3⟩, h4⟩ := hr
      exact ⟨h1, ⟨k', h2, h3, rfl⟩, h4⟩
    · rw [hn] at hr
      obtain ⟨h1, ⟨k', h2, h3, h5⟩, h4⟩ := hr
      exact ⟨h1, ⟨k', h2, h5, h3⟩, h4⟩
  · obtain ⟨h1, ⟨k', h2, h3⟩, h4⟩ := hr
    exact ⟨h1, ⟨k', h2, h3, rfl⟩, h4⟩

/-- Between two reads of a round: W is the world behind the reader's making. -/
structure DS (W : World) (p : Nat) (R : World → RSt → Prop) (z : RSt) (v : Value) (es : List Req) (wr : World) : Prop where
  but : Wr.But p W wr
  lo : p < W.heap.size
  rows : wr.ownsRow W.heap.size 46 9 v es.length (reqCells es)
  rd : R wr z
/-- .. with the round's request. -/
structure DB (W : World) (p : Nat) (R : World → RSt → Prop) (z : RSt) (v : Value) (es : List Req) (eb : Nat) (r : Req) (wr : World) : Prop where
  ds : DS W p R z v es wr
  box : ReqBox wr eb r
  fr : v.ownBlock ≠ some eb
  lo : W.heap.size ≤ eb
section
variable {W : World} {p : Nat} {R : World → RSt → Prop} {z z' : RSt} {v v' : Value} {es : List Req} {eb : Nat} {r r' : Req} {w w' : World}
theorem DS.ne (h : DS W p R z v es w) : v.ownBlock ≠ some p := fun e => absurd (h.rows.lt _ e).1 (by have := h.lo; omega)
theorem DS.read (h : DS W p R z v es w) (hr : R w' z') (hb : Wr.But p w w') : DS W p R z' v es w' :=
  ⟨h.but.trans hb, h.lo, World.ownsRow.kept h.rows ⟨hb.os, hb.tape, hb.output, hb.size, fun k hk hn => hb.block k hk (by rintro rfl; exact hn rfl)⟩ (.inr h.ne), hr⟩
theorem DS.below (h : DS W p R z v es w) (hR : Local p R) (hb : RowKit.Below w.heap.size w w') : DS W p R z v es w' :=
  ⟨h.but.trans (Wr.But.of hb), h.lo, rows_below h.rows hb, hR _ _ _ h.rd (hb.block _ (Nat.lt_of_lt_of_le h.lo h.but.size))⟩
theorem DS.set (h : DS W p R z v es w) (hR : Local p R) (hlo : W.heap.size ≤ eb) (hv : v.ownBlock ≠ some eb) (j : Nat) (u : Value) : DS W p R z v es (w.setCell ⟨eb, j, none⟩ u) := by
  have hne : p ≠ eb := by have := h.lo; omega
  exact ⟨⟨h.but.os, h.but.tape, h.but.output, by simpa [World.setCell] using h.but.size, fun k hk hp => (Below.heap_setCell _ _ _ _ (by show k ≠ eb; omega)).trans (h.but.block k hk hp)⟩, h.lo, World.ownsRow.kept h.rows ⟨rfl, rfl, rfl, by simp [World.setCell], fun k _ hk => Below.heap_setCell _ _ _ _ (by simpa using hk)⟩ (.inr hv), hR _ _ _ h.rd (Below.heap_setCell _ _ _ _ hne)⟩
theorem DS.box (h : DS W p R z v es w) (hR : Local p R) (r : Req) : DB W p R z v es w.heap.size r (w.alloc (.cells r.cells 46)) :=
  ⟨h.below hR (below_alloc1 _ _), ReqBox.new w r, fun e => absurd (h.rows.lt _ e).2 (by omega), h.but.size⟩
theorem DB.ne (h : DB W p R z v es eb r w) : eb ≠ p := by
  have := h.lo; have := h.ds.lo; omega
theorem DB.read (h : DB W p R z v es eb r w) (hr : R w' z') (hb : Wr.But p w w') : DB W p R z' v es eb r w' := by
  refine ⟨h.ds.read hr hb, ?_, h.fr, h.lo⟩
  have hx := h.box
  unfold ReqBox at *
  rw [hb.block eb (lt_of_heap hx) h.ne]; exact hx
theorem DB.below (h : DB W p R z v es eb r w) (hR : Local p R) (hb : RowKit.Below w.heap.size w w') : DB W p R z v es eb r w' :=
  ⟨h.ds.below hR hb, h.box.below hb, h.fr, h.lo⟩
theorem DB.set (h : DB W p R z v es eb r w) (hR : Local p R) (j : Nat) (u : Value) (he : r.cells.setIfInBounds j u = r'.cells) : DB W p R z v es eb r' (w.setCell ⟨eb, j, none⟩ u) :=
  ⟨h.ds.set hR h.lo h.fr j u, h.box.set j u he, h.fr, h.lo⟩
theorem DS.append {o : Obj} (h : DS W p R z v es w) (hR : Local p R) (r : Req) (hown : w'.ownsRow W.heap.size 46 9 v' (es ++ [r]).length (reqCells (es ++ [r]))) (hg : (w.alloc o).grownBy w' v.ownBlock) : DS W p R z v' (es ++ [r]) w' := by
  have hz := h.but.size
  have hlo := h.lo
  have key : ∀ k, k < w.heap.size → v.ownBlock ≠ some k → w'.heap[k]? = w.heap[k]? := fun k hk hn =>
    (hg.block k (by simp; omega) (Ne.symm hn)).trans ((below_alloc1 w o).block k hk)
  refine ⟨⟨(hg.os.trans rfl).trans h.but.os, (hg.tape.trans rfl).trans h.but.tape, (hg.output.trans rfl).trans h.but.output, Nat.le_trans hz (Nat.le_trans (by simp) hg.size), fun k hk hp => ?_⟩, hlo, hown, hR _ _ _ h.rd (key p (by omega) h.ne)⟩
  rw [key k (by omega) (fun e => absurd (h.rows.lt _ e).1 (by omega))]
  exact h.but.block k hk hp
end
section
variable (W : World) (p : Nat) (z : RSt) (v : Value) (es : List Req) (eb : Nat) (r : Req) (w : World)
/-- What a read in a round comes to. -/
def DSRead (R : World → RSt → Prop) (u : Value) (z : RSt) (e : Ending) (w' : World) : Prop := e = .returned u ∧ DS W p R z v es w'
def DBRead (R : World → RSt → Prop) (u : Value) (z : RSt) (e : Ending) (w' : World) : Prop := e = .returned u ∧ DB W p R z v es eb r w'
/-- What the project's reader wants of the world behind its making. -/
structure PWorld : Prop where
  past : Wr.Past p
  sane : Wr.Sane W
  vars : Wr.ErrVars W
theorem pInt_ds (P : PWorld W p) (a : Int × RSt) (ha : rdI z = a) (hz : z.2.length ≤ 1000000) (h : DS W p (RdS p) z v es w) :
    Calls Tryz.prog 37 #[.pointer (some ⟨p, 0, none⟩)] w (DSRead W p v es (RdS p) (.int .i64 a.1) a.2) := by
  subst ha
  exact (rdInt_s p P.past z hz w h.rd (P.sane.but h.but P.past) (P.vars.but h.but P.past)).mono fun e w' ⟨he, hr, hb⟩ => ⟨he, h.read hr hb⟩
theorem pInt_db (P : PWorld W p) (a : Int × RSt) (ha : rdI z = a) (hz : z.2.length ≤ 1000000) (h : DB W p (RdS p) z v es eb r w) :
    Calls Tryz.prog 37 #[.pointer (some ⟨p, 0, none⟩)] w (DBRead W p v es eb r (RdS p) (.int .i64 a.1) a.2) := by
  subst ha
  exact (rdInt_s p P.past z hz w h.ds.rd (P.sane.but h.ds.but P.past) (P.vars.but h.ds.but P.past)).mono fun e w' ⟨he, hr, hb⟩ => ⟨he, h.read hr hb⟩
theorem pText_db (P : PWorld W p) (a : ByteArray × RSt) (ha : rdT z = a) (hz : z.2.length ≤ 1000000) (h : DB W p (RdS p) z v es eb r w) :
    Calls Tryz.prog 39 #[.pointer (some ⟨p, 0, none⟩)] w (DBRead W p v es eb r (RdS p) (.string a.1) a.2) := by
  subst ha
  exact (rdText_s p P.past z hz w h.ds.rd (P.sane.but h.ds.but P.past) (P.vars.but h.ds.but P.past)).mono fun e w' ⟨he, hr, hb⟩ => ⟨he, h.read hr hb⟩
theorem fInt_ds (s : ByteArray) (hs : s.size ≤ 1000000) (a : Int × RSt) (ha : rdI z = a) (h : DS W p (RfS s p) z v es w) :
    Calls Tryz.prog 44 #[.pointer (some ⟨p, 0, none⟩)] w (DSRead W p v es (RfS s p) (.int .i64 a.1) a.2) := by
  subst ha
  exact (rfInt_s p s hs z w h.rd).mono fun e w' ⟨he, hr, hb⟩ => ⟨he, h.read hr hb⟩
theorem fInt_db (s : ByteArray) (hs : s.size ≤ 1000000) (a : Int × RSt) (ha : rdI z = a) (h : DB W p (RfS s p) z v es eb r w) :
    Calls Tryz.prog 44 #[.pointer (some ⟨p, 0, none⟩)] w (DBRead W p v es eb r (RfS s p) (.int .i64 a.1) a.2) := by
  subst ha
  exact (rfInt_s p s hs z w h.ds.rd).mono fun e w' ⟨he, hr, hb⟩ => ⟨he, h.read hr hb⟩
theorem fText_db (s : ByteArray) (hs : s.size ≤ 1000000) (a : ByteArray × RSt) (ha : rdT z = a) (h : DB W p (RfS s p) z v es eb r w) :
    Calls Tryz.prog 46 #[.pointer (some ⟨p, 0, none⟩)] w (DBRead W p v es eb r (RfS s p) (.string a.1) a.2) := by
  subst ha
  exact (rfText_s p s hs z w h.ds.rd).mono fun e w' ⟨he, hr, hb⟩ => ⟨he, h.read hr hb⟩
end
end Go.Proofs.YtanmmooflhomoaaGreatDoor
/- What a loop of Decode keeps (plain law); request.Decode. -/
namespace Go.Proofs.YtanmmooflhomoaaGreatDoor
open Go Go.Proofs Go.RowKit Go.Sort Go.Lib
attribute [local go_sem] Req.cells
attribute [local go_sem] setCell_size

theorem flat_len (L : List Req) : L.length ≤ (L.flatMap encR1).length := by
  induction L with
  | nil => simp
  | cons x t ih =>
    have h2 : 0 < (encR1 x).length := by
      simp [encR1, Req.ints1, wInts, wInt]
      omega
    rw [List.flatMap_cons, List.length_append, List.length_cons]
    omega
theorem encL_len (L : List Req) : L.length ≤ (encL L).length := by
  unfold encL
  have := flat_len L
  rw [List.length_append]
  omega
/-- Behind as many requests as 'es': m are to be read, the reader stands at z. -/
structure DInv (s : List UInt8) (m : Int) (es : List Req) (z : RSt) : Prop where
  way : OnWay s m es.length es z
  snd : z.1 = false → s = wInt m ++ (es.flatMap encR1 ++ z.2)
  ok : ∀ r ∈ es, r.Ok
  room : es.length + z.2.length ≤ s.length + (if z.1 = true then 1 else 0)
  sz : z.2.length ≤ s.length
theorem DInv.start (s : List UInt8) {m : Int} {z : RSt} (h : rdI (false, s) = (m, z)) : DInv s m [] z := by
  have hl := rdI_len (false, s)
  have hw := onWay_start s
  rw [h] at hl hw
  refine ⟨hw, fun hz => ?_, by simp, ?_, hl⟩
  · have := (rdI_some (z := (false, s)) (by rw [h]; exact hz)).2
    rw [h] at this
    simpa using this
  · simp only [List.length_nil, Nat.zero_add]
    exact Nat.le_trans hl (Nat.le_add_right _ _)
section
variable {s : List UInt8} {m : Int} {es : List Req} {z z1 z2 z3 z4 z5 z6 z7 z8 z9 : RSt} {n0 n1 n2 n3 n4 n7 n8 : Int} {t5 t6 : ByteArray} {cb : Bool}
/-- The nine reads of a round. -/
structure Nine (z : RSt) (n0 n1 n2 n3 n4 : Int) (t5 t6 : ByteArray) (n7 n8 : Int) (z1 z2 z3 z4 z5 z6 z7 z8 z9 : RSt) : Prop where
  e0 : rdI z = (n0, z1)
  e1 : rdI z1 = (n1, z2)
  e2 : rdI z2 = (n2, z3)
  e3 : rdI z3 = (n3, z4)
  e4 : rdI z4 = (n4, z5)
  e5 : rdT z5 = (t5, z6)
  e6 : rdT z6 = (t6, z7)
  e7 : rdI z7 = (n7, z8)
  e8 : rdI z8 = (n8, z9)
theorem nine (z : RSt) : ∃ n0 n1 n2 n3 n4 t5 t6 n7 n8 z1 z2 z3 z4 z5 z6 z7 z8 z9, Nine z n0 n1 n2 n3 n4 t5 t6 n7 n8 z1 z2 z3 z4 z5 z6 z7 z8 z9 :=
  ⟨_, _, _, _, _, _, _, _, _, _, _, _, _, _, _, _, _, _, rfl, rfl, rfl, rfl, rfl, rfl, rfl, rfl, rfl⟩
theorem Nine.got (h : Nine z n0 n1 n2 n3 n4 t5 t6 n7 n8 z1 z2 z3 z4 z5 z6 z7 z8 z9) (hc : (n2 == 1) = cb) :
    (Got.mk z).req = ⟨n0, n1, cb, n3, n4, t5, t6, n7, n8⟩ ∧ (Got.mk z).a2.1 = n2 ∧ (Got.mk z).a8.2 = z9 := by
  have g0 : (Got.mk z).a0 = (n0, z1) := h.e0
  have g1 : (Got.mk z).a1 = (n1, z2) := by unfold Got.a1; rw [g0]; exact h.e1
  have g2 : (Got.mk z).a2 = (n2, z3) := by unfold Got.a2; rw [g1]; exact h.e2
  have g3 : (Got.mk z).a3 = (n3, z4) := by unfold Got.a3; rw [g2]; exact h.e3
  have g4 : (Got.mk z).a4 = (n4, z5) := by unfold Got.a4; rw [g3]; exact h.e4
  have g5 : (Got.mk z).a5 = (t5, z6) := by unfold Got.a5; rw [g4]; exact h.e5
  have g6 : (Got.mk z).a6 = (t6, z7) := by unfold Got.a6; rw [g5]; exact h.e6
  have g7 : (Got.mk z).a7 = (n7, z8) := by unfold Got.a7; rw [g6]; exact h.e7
  have g8 : (Got.mk z).a8 = (n8, z9) := by unfold Got.a8; rw [g7]; exact h.e8
  refine ⟨?_, by rw [g2], by rw [g8]⟩
  unfold Got.req
  rw [g0, g1, g2, g3, g4, g5, g6, g7, g8, ← hc]
theorem Nine.len (h : Nine z n0 n1 n2 n3 n4 t5 t6 n7 n8 z1 z2 z3 z4 z5 z6 z7 z8 z9) {N : Nat} (hz : z.2.length ≤ N) :
    z1.2.length ≤ N ∧ z2.2.length ≤ N ∧ z3.2.length ≤ N ∧ z4.2.length ≤ N ∧ z5.2.length ≤ N ∧ z6.2.length ≤ N ∧ z7.2.length ≤ N ∧ z8.2.length ≤ N ∧ z9.2.length ≤ N := by
  have l0 := rdI_len z
  have l1 := rdI_len z1
  have l2 := rdI_len z2
  have l3 := rdI_len z3
  have l4 := rdI_len z4
  have l5 := rdT_len z5
  have l6 := rdT_len z6
  have l7 := rdI_len z7
  have l8 := rdI_len z8
  rw [h.e0] at l0
  rw [h.e1] at l1
  rw [h.e2] at l2
  rw [h.e3] at l3
  rw [h.e4] at l4
  rw [h.e5] at l5
  rw [h.e6] at l6
  rw [h.e7] at l7
  rw [h.e8] at l8
  dsimp only at l0 l1 l2 l3 l4 l5 l6 l7 l8
  omega
/-- A round that was whole. -/
theorem DInv.round (h : DInv s m es z) (hs : s.length ≤ 100000) (hz : z.1 = false) (hm : (es.length : Int) < m) (h9 : Nine z n0 n1 n2 n3 n4 t5 t6 n7 n8 z1 z2 z3 z4 z5 z6 z7 z8 z9) (hc : (n2 == 1) = cb) (ht : n2 = truthN cb) :
    DInv s m (es ++ [⟨n0, n1, cb, n3, n4, t5, t6, n7, n8⟩]) z9 := by
  obtain ⟨g1, g2, g3⟩ := h9.got hc
  have hw := (onWay_next h.way hm).1
  have hok := (Got.mk z).ok (Nat.le_trans h.sz hs)
  have hlen := (Got.mk z).len
  have hso := (Got.mk z).sound
  rw [g1, g3] at hw
  rw [g1] at hok hso
  rw [g3] at hlen hso
  rw [g2] at hso
  have hroom := h.room
  have hsz := h.sz
  rw [hz] at hroom
  simp only [Bool.false_eq_true, if_false, Nat.add_zero] at hroom
  change z9.2.length ≤ z.2.length at hlen
  refine ⟨by rw [List.length_append]; exact hw, fun h8 => ?_, fun r hr => ?_, ?_, Nat.le_trans hlen hsz⟩
  · have := (hso h8 ht).2.1
    change z.2 = _ at this
    rw [h.snd hz, this]
    simp
  · rcases List.mem_append.1 hr with hr | hr
    · exact h.ok r hr
    · rw [List.mem_singleton] at hr
      rw [hr]; exact hok
  · rw [List.length_append, List.length_singleton]
    by_cases h8 : z9.1 = true
    · rw [if_pos h8]; omega
    · have h8' : z9.1 = false := by simpa using h8
      have := (hso h8' ht).2.2
      change _ < z.2.length at this
      rw [if_neg h8]; omega
/-- No list is written so. -/
def NoEnc (s : List UInt8) : Prop := ¬ ∃ L, (∀ r ∈ L, r.Ok) ∧ s = encL L
theorem not_of {s : List UInt8} (hs : s.length ≤ 100000) (h : ∀ L, (∀ r ∈ L, r.Ok) → L.length ≤ 100001 → s = encL L → False) : NoEnc s := by
  rintro ⟨L, hL, e⟩
  have := encL_len L
  rw [← e] at this
  exact h L hL (by omega) e
theorem DInv.neg (h : DInv s m es z) (hs : s.length ≤ 100000) (hm : m < 0) : NoEnc s :=
  not_of hs fun L hL hl e => by have := (h.way L hL hl e).1; omega
theorem DInv.bad (h : DInv s m es z) (hs : s.length ≤ 100000) (hz : z.1 = true) : NoEnc s :=
  not_of hs fun L hL hl e => by have := (h.way L hL hl e).2.1; rw [hz] at this; cases this
theorem DInv.left (h : DInv s m es z) (hs : s.length ≤ 100000) (hm : m ≤ es.length) (hz : 0 < z.2.length) : NoEnc s :=
  not_of hs fun L hL hl e => by
    obtain ⟨h1, _, _, h4⟩ := h.way L hL hl e
    rw [List.drop_eq_nil_of_le (by omega)] at h4
    rw [h4] at hz
    simp at hz
theorem DInv.odd (h : DInv s m es z) (hs : s.length ≤ 100000) (hm : (es.length : Int) < m) (h9 : Nine z n0 n1 n2 n3 n4 t5 t6 n7 n8 z1 z2 z3 z4 z5 z6 z7 z8 z9) (hc : (n2 == 1) = cb) (ht : n2 ≠ truthN cb) : NoEnc s := by
  obtain ⟨g1, g2, _⟩ := h9.got hc
  refine not_of hs fun L hL hl e => ht ?_
  have := (onWay_next h.way hm).2 L hL hl e
  rw [g1, g2] at this
  exact this
theorem DInv.done (h : DInv s m es z) (hz : z.1 = false) (hm : m = es.length) (h0 : z.2.length = 0) : s = encL es := by
  have h1 : z.2 = [] := List.eq_nil_of_length_eq_zero h0
  rw [h.snd hz, h1, hm]
  simp [encL]
end
end Go.Proofs.YtanmmooflhomoaaGreatDoor
/- request.Decode: walked once. -/
namespace Go.Proofs.YtanmmooflhomoaaGreatDoor
open Go Go.Proofs Go.RowKit Go.Sort Go.Lib
attribute [local go_sem] Req.cells
attribute [local go_sem] setCell_size

def lenOf : Value → Nat
  | .slice _ n _ => n
  | _ => 0
set_option maxHeartbeats 8000000 in
set_option maxRecDepth 100000 in
theorem decode_any (s : ByteArray) (hs : s.size ≤ 100000) (w : World) (ht : Wr.Sane w) (he : Wr.ErrVars w) (hp0 : ∀ p, w.heap.size ≤ p → Wr.Past p) :
    Calls Tryz.prog 16 #[.string s] w (DecPost s.data.toList w) := by
  have HBZ := Lib.hid (ba_size s)
  have HSL : Hid (s.data.toList.length ≤ 100000) := Lib.hid (by have := HBZ.out; omega)
  have hsz : ¬ (262144 : Int) < (s.size : Int) := by omega
  go_enter Tryz.func16, Tryz.ntmps16
  go_wp2_with fail
  refine (Wr.new_any s w).mono ?_
  rintro x W ⟨p, rfl, hp, hR, hB⟩
  have P : PWorld W p := ⟨hp0 p hp, ht.below hB, he.below hB⟩
  have hR0 : RdS p W (false, s.data.toList) := by
    unfold RdS
    rw [show (⟨s.data.toList.toArray⟩ : ByteArray) = s from ba_ext (by simp)]
    exact hR
  have hd0 : DS W p (RdS p) (false, s.data.toList) (.slice none 0 0) [] W := ⟨Wr.But.refl _ _, hR0.lt, World.ownsRow_nil _ _ _ _, hR0⟩
  obtain ⟨⟨m, z⟩, hz⟩ : ∃ a, rdI (false, s.data.toList) = a := ⟨_, rfl⟩
  have HI0 := Lib.hid (DInv.start _ hz)
  have c0 := pInt_ds W p _ _ _ W P _ hz (by have := HSL.out; simp only; omega) hd0
  have hpW := hR0.lt
  clear ht he hp0 hR hR0 hd0 hz
  go_wp2_with fail
  refine c0.mono ?_
  rintro x w1 ⟨rfl, hd⟩
  clear c0
  have HF := Lib.hid (show ∀ w', Wr.But p W w' → RowKit.Below w.heap.size w w' from fun w' h => hB.trans (h.below hp hB.size))
  clear hB hp
  by_cases hm : m < 0
  · go_wp2_with fail
    refine bodyPost_ret (results_tmp2 rfl _ _ _) rfl ?_
    exact ⟨.inr ⟨rfl, HI0.out.neg HSL.out hm⟩, HF.out _ hd.but⟩
  · go_wp2_with fail
    go_loopw [6] (fun v wr => ∃ (es : List Req) (z : RSt), DS W p (RdS p) z v es wr ∧ Hid (DInv s.data.toList m es z) ∧ Hid ((es.length : Int) ≤ m)) (fun v _ => 100002 - lenOf v)
    case atStart => exact ⟨[], z, hd, HI0, Lib.hid (by simpa using hm)⟩
    case round =>
      clear HI0 hd
      obtain ⟨es, z, hd, HI, HM⟩ := hrel
      obtain ⟨sv, cv, rfl, _⟩ := (reqsIn_own hd.rows).form
      by_cases hlt : (es.length : Int) < m
      · have cb0 := Wr.bad_any p _ _ _ hd.rd
        obtain ⟨zb, zs⟩ := z
        cases zb
        · go_wp2_with fail
          refine cb0.mono ?_
          rintro x _ ⟨rfl, rfl⟩
          clear cb0
          obtain ⟨n0, n1, n2, n3, n4, t5, t6, n7, n8, z1, z2, z3, z4, z5, z6, z7, z8, z9, h9⟩ := nine (false, zs)
          have hl := h9.len (N := 1000000) (by have := HI.out.sz; have := HSL.out; omega)
          have hl0 : (false, zs).2.length ≤ 1000000 := by have := HI.out.sz; have := HSL.out; omega
          have H9 := Lib.hid h9
          have HLN := Lib.hid hl
          have c0 := pInt_ds W p _ _ _ wr P _ h9.e0 hl0 hd
          clear h9 hl hl0
          go_wp2_with fail
          refine c0.mono ?_
          rintro x w2 ⟨rfl, hd1⟩
          clear c0 hd
          have c1 := pInt_ds W p _ _ _ w2 P _ H9.out.e1 HLN.out.1 hd1
          go_wp2_with fail
          refine c1.mono ?_
          rintro x w3 ⟨rfl, hd2⟩
          clear c1 hd1
          go_wp2_with fail
          have hb3 := hd2.box (RdS.loc p) ⟨n0, n1, false, 0, 0, ⟨#[]⟩, ⟨#[]⟩, 0, 0⟩
          have hown := hd2.rows
          have hlo := hd2.but.size
          clear hd2
          simp only [Req.cells] at hb3
          generalize w3.heap.size = eb at hb3 hlo ⊢
          generalize w3.alloc (.cells #[.int .i64 n0, .int .i64 n1, .bool false, .int .i64 0, .int .i64 0, .string ⟨#[]⟩, .string ⟨#[]⟩, .int .i64 0, .int .i64 0] 46) = w4 at hb3 ⊢
          have c2 := pInt_db W p _ _ _ eb _ w4 P _ H9.out.e2 HLN.out.2.1 hb3
          go_wp2_with fail
          refine c2.mono ?_
          rintro x w5 ⟨rfl, hb4⟩
          clear c2 hb3
          have fz := hb4.box.frozen 2
          have cc := hb4.box.cell 2
          simp only [Req.cells] at cc
          obtain ⟨cb, hcb⟩ : ∃ cb, (n2 == 1) = cb := ⟨_, rfl⟩
          go_wp2_with fail
          have hb5 := hb4.set (r' := ⟨n0, n1, cb, 0, 0, ⟨#[]⟩, ⟨#[]⟩, 0, 0⟩) (RdS.loc p) 2 (.bool cb) rfl
          generalize w5.setCell ⟨eb, 2, none⟩ (.bool cb) = w6 at hb5 ⊢
          clear hb4 fz cc
          have HC := Lib.hid hcb
          clear hcb
          refine (truth_any cb w6).mono ?_
          rintro x _ ⟨rfl, rfl⟩
          obtain ⟨tn, htn⟩ : ∃ t, truthN cb = t := ⟨_, rfl⟩
          rw [htn]
          have HT := Lib.hid htn
          clear htn
          by_cases hodd : n2 = tn
          · subst hodd
            have c3 := pInt_db W p _ _ _ eb _ w6 P _ H9.out.e3 HLN.out.2.2.1 hb5
            go_wp2_with fail
            refine c3.mono ?_
            rintro x w7 ⟨rfl, hb6⟩
            clear c3 hb5
            have c4 := pInt_db W p _ _ _ eb _ w7 P _ H9.out.e4 HLN.out.2.2.2.1 hb6
            go_wp2_with fail
            refine c4.mono ?_
            rintro x w8 ⟨rfl, hb7⟩
            clear c4 hb6
            have fz3 := hb7.box.frozen 3
            have fz4 := hb7.box.frozen 4
            have c3c : w8.cell? ⟨eb, 3, none⟩ = some (.int .i64 0) := hb7.box.cell 3
            have c4c : w8.cell? ⟨eb, 4, none⟩ = some (.int .i64 0) := hb7.box.cell 4
            go_wp2_with fail
            have hb8 := (hb7.set (r' := ⟨n0, n1, cb, n3, 0, ⟨#[]⟩, ⟨#[]⟩, 0, 0⟩) (RdS.loc p) 3 (.int .i64 n3) rfl).set (r' := ⟨n0, n1, cb, n3, n4, ⟨#[]⟩, ⟨#[]⟩, 0, 0⟩) (RdS.loc p) 4 (.int .i64 n4) rfl
            generalize (w8.setCell ⟨eb, 3, none⟩ (.int .i64 n3)).setCell ⟨eb, 4, none⟩ (.int .i64 n4) = w9 at hb8 ⊢
            clear hb7 fz3 fz4 c3c c4c
            have c5 := pText_db W p _ _ _ eb _ w9 P _ H9.out.e5 HLN.out.2.2.2.2.1 hb8
            go_wp2_with fail
            refine c5.mono ?_
            rintro x w10 ⟨rfl, hb9⟩
            clear c5 hb8
            have c6 := pText_db W p _ _ _ eb _ w10 P _ H9.out.e6 HLN.out.2.2.2.2.2.1 hb9
            go_wp2_with fail
            refine c6.mono ?_
            rintro x w11 ⟨rfl, hb10⟩
            clear c6 hb9
            have fz5 := hb10.box.frozen 5
            have fz6 := hb10.box.frozen 6
            have c5c : w11.cell? ⟨eb, 5, none⟩ = some (.string ⟨#[]⟩) := hb10.box.cell 5
            have c6c : w11.cell? ⟨eb, 6, none⟩ = some (.string ⟨#[]⟩) := hb10.box.cell 6
            go_wp2_with fail
            have hb11 := (hb10.set (r' := ⟨n0, n1, cb, n3, n4, t5, ⟨#[]⟩, 0, 0⟩) (RdS.loc p) 5 (.string t5) rfl).set (r' := ⟨n0, n1, cb, n3, n4, t5, t6, 0, 0⟩) (RdS.loc p) 6 (.string t6) rfl
            generalize (w11.setCell ⟨eb, 5, none⟩ (.string t5)).setCell ⟨eb, 6, none⟩ (.string t6) = w12 at hb11 ⊢
            clear hb10 fz5 fz6 c5c c6c
            have c7 := pInt_db W p _ _ _ eb _ w12 P _ H9.out.e7 HLN.out.2.2.2.2.2.2.1 hb11
            go_wp2_with fail
            refine c7.mono ?_
            rintro x w13 ⟨rfl, hb12⟩
            clear c7 hb11
            have c8 := pInt_db W p _ _ _ eb _ w13 P _ H9.out.e8 HLN.out.2.2.2.2.2.2.2.1 hb12
            go_wp2_with fail
            refine c8.mono ?_
            rintro x w14 ⟨rfl, hb13⟩
            clear c8 hb12
            have fz7 := hb13.box.frozen 7
            have fz8 := hb13.box.frozen 8
            have c7c : w14.cell? ⟨eb, 7, none⟩ = some (.int .i64 0) := hb13.box.cell 7
            have c8c : w14.cell? ⟨eb, 8, none⟩ = some (.int .i64 0) := hb13.box.cell 8
            have hb14 := (hb13.set (r' := ⟨n0, n1, cb, n3, n4, t5, t6, n7, 0⟩) (RdS.loc p) 7 (.int .i64 n7) rfl).set (r' := ⟨n0, n1, cb, n3, n4, t5, t6, n7, n8⟩) (RdS.loc p) 8 (.int .i64 n8) rfl
            have hat := hb14.box.at_
            have hlen : es.length + 1 ≤ 1000000 := by have h1 : es.length + (false, zs).2.length ≤ s.data.toList.length + 0 := HI.out.room; have := HSL.out; omega
            have HB := Lib.hid hb13
            go_wp2_with (first
              | ((with_reducible refine wpList_load_mid (op := ⟨some 61, _, _, _, _, _⟩) ?_ 46 (.tmp 7) ?_ eb 0 ?_ (Req.cells ⟨n0, n1, cb, n3, n4, t5, t6, n7, n8⟩).toList _ ?_ Tryz.underlying46 ?_ ?_ ?_); rfl; rfl; rfl; exact hat; rfl; kernel_rfl)
              | (at_builtin; go_must (refine wpList_append_reqs rfl (.tmp 60) (.tmp 62) rfl W.heap.size _ _ es [⟨n0, n1, cb, n3, n4, t5, t6, n7, n8⟩] rfl rfl (hb14.ds.rows.alloc _) (reqs_one_at _ ⟨n0, n1, cb, n3, n4, t5, t6, n7, n8⟩ _ ((setCell_size _ _ _).trans (setCell_size _ _ _))) hlen (by have := hb14.ds.but.size; simp at this ⊢; omega) ?_); intro v' wd hown' hg'))
            go_wp2_with fail
            have hd' := hb14.ds.append (RdS.loc p) ⟨n0, n1, cb, n3, n4, t5, t6, n7, n8⟩ hown' hg'
            obtain ⟨sv', cv', rfl, _⟩ := (reqsIn_own hown').form
            exact ⟨⟨_, _, hd', Lib.hid (HI.out.round HSL.out rfl hlt H9.out HC.out HT.out.symm), Lib.hid (by simp only [List.length_append, List.length_singleton]; omega)⟩, by
              have h1 : es.length + (false, zs).2.length ≤ s.data.toList.length + 0 := HI.out.room
              have h2 := HSL.out
              show 100002 - (es ++ [_]).length < 100002 - es.length
              rw [List.length_append, List.length_singleton]; omega⟩
          · have hne : (n2 != tn) = true := by simpa using hodd
            go_wp2_with fail
            refine bodyPost_ret (results_tmp2 rfl _ _ _) rfl ?_
            exact ⟨.inr ⟨rfl, HI.out.odd HSL.out hlt H9.out HC.out (by rw [HT.out]; exact hodd)⟩, HF.out _ hb5.ds.but⟩
        · go_wp2_with fail
          refine cb0.mono ?_
          rintro x _ ⟨rfl, rfl⟩
          go_wp2_with fail
          refine cb0.mono ?_
          rintro x _ ⟨rfl, rfl⟩
          go_wp2_with fail
          refine bodyPost_ret (results_tmp2 rfl _ _ _) rfl ?_
          exact ⟨.inr ⟨rfl, HI.out.bad HSL.out rfl⟩, HF.out _ hd.but⟩
      · have hme : m = (es.length : Int) := by have := HM.out; omega
        have cb0 := Wr.bad_any p _ _ _ hd.rd
        have cl0 := Wr.left_any p _ _ _ hd.rd
        have HME := Lib.hid hme
        clear hme
        obtain ⟨zb, zs⟩ := z
        go_wp2_with fail
        refine cb0.mono ?_
        rintro x _ ⟨rfl, rfl⟩
        cases zb
        · go_wp2_with fail
          refine cl0.mono ?_
          rintro x _ ⟨rfl, rfl⟩
          by_cases hq : zs.length = 0
          · go_wp2_with fail
            refine bodyPost_ret (results_tmp2 rfl _ _ _) rfl ?_
            exact ⟨.inl ⟨_, es, rfl, HI.out.done rfl HME.out hq, HI.out.ok, by have h1 : es.length + (false, zs).2.length ≤ s.data.toList.length + 0 := HI.out.room; have := HSL.out; omega, reqsIn_own hd.rows⟩, HF.out _ hd.but⟩
          · go_wp2_with fail
            refine bodyPost_ret (results_tmp2 rfl _ _ _) rfl ?_
            exact ⟨.inr ⟨rfl, HI.out.left HSL.out (by have := HME.out; omega) (Nat.pos_of_ne_zero hq)⟩, HF.out _ hd.but⟩
        · go_wp2_with fail
          refine bodyPost_ret (results_tmp2 rfl _ _ _) rfl ?_
          exact ⟨.inr ⟨rfl, HI.out.bad HSL.out rfl⟩, HF.out _ hd.but⟩
end Go.Proofs.YtanmmooflhomoaaGreatDoor
/- The reference's Decode: what its loop keeps (plain law); walked once. -/
namespace Go.Proofs.YtanmmooflhomoaaGreatDoor
open Go Go.Proofs Go.RowKit Go.Sort Go.Lib
attribute [local go_sem] Req.cells
attribute [local go_sem] setCell_size

theorem wInt_pos (n : Int) : 2 ≤ (wInt n).length := by
  obtain ⟨c, q, h, _⟩ := Wr.itoa_head n
  simp [wInt, h]
theorem wInt_zero : (wInt 0).length = 2 := by decide +kernel
section
variable {s : List UInt8} {m : Int} {es : List Req} {z z1 z2 z3 z4 z5 z6 z7 z8 z9 : RSt} {n0 n1 n2 n3 n4 n7 n8 : Int} {t5 t6 : ByteArray} {cb : Bool}
theorem Nine.fit (h : Nine z n0 n1 n2 n3 n4 t5 t6 n7 n8 z1 z2 z3 z4 z5 z6 z7 z8 z9) (hc : (n2 == 1) = cb) (hz : z9.1 = false) :
    (encR1 ⟨n0, n1, cb, n3, n4, t5, t6, n7, n8⟩).length + z9.2.length ≤ z.2.length ∧ z9.2.length < z.2.length := by
  have h8 := rdI_some (z := z8) (by rw [h.e8]; exact hz)
  rw [h.e8] at h8
  have h7 := rdI_some (z := z7) (by rw [h.e7]; exact h8.1)
  rw [h.e7] at h7
  have h6 := rdT_some (z := z6) (by rw [h.e6]; exact h7.1)
  rw [h.e6] at h6
  have h5 := rdT_some (z := z5) (by rw [h.e5]; exact h6.1)
  rw [h.e5] at h5
  have h4 := rdI_some (z := z4) (by rw [h.e4]; exact h5.1)
  rw [h.e4] at h4
  have h3 := rdI_some (z := z3) (by rw [h.e3]; exact h4.1)
  rw [h.e3] at h3
  have h2 := rdI_some (z := z2) (by rw [h.e2]; exact h3.1)
  rw [h.e2] at h2
  have h1 := rdI_some (z := z1) (by rw [h.e1]; exact h2.1)
  rw [h.e1] at h1
  have h0 := rdI_some (z := z) (by rw [h.e0]; exact h1.1)
  rw [h.e0] at h0
  have l0 := congrArg List.length h0.2
  have l1 := congrArg List.length h1.2
  have l2 := congrArg List.length h2.2
  have l3 := congrArg List.length h3.2
  have l4 := congrArg List.length h4.2
  have l5 := congrArg List.length h5.2
  have l6 := congrArg List.length h6.2
  have l7 := congrArg List.length h7.2
  have l8 := congrArg List.length h8.2
  dsimp only at l0 l1 l2 l3 l4 l5 l6 l7 l8
  rw [List.length_append] at l0 l1 l2 l3 l4 l5 l6 l7 l8
  have hp0 := wInt_pos n0
  have ht : (wInt (truthN cb)).length ≤ (wInt n2).length := by
    cases cb
    · show (wInt 0).length ≤ _
      rw [wInt_zero]; exact wInt_pos n2
    · have : n2 = 1 := by simpa using hc
      rw [this]; exact Nat.le_refl _
  refine ⟨?_, by omega⟩
  simp only [encR1, Req.ints1, Req.ints2, wInts, List.flatMap_cons, List.flatMap_nil, List.append_nil, List.length_append]
  omega
/-- What the reference's loop keeps: what was read is no longer than what it was read from. -/
structure DRef (s : List UInt8) (m : Int) (es : List Req) (z : RSt) : Prop where
  way : OnWay s m es.length es z
  fit : z.1 = false → (es.flatMap encR1).length + z.2.length ≤ s.length
  ok : ∀ r ∈ es, r.Ok
  room : es.length + z.2.length ≤ s.length + (if z.1 = true then 1 else 0)
  sz : z.2.length ≤ s.length
theorem DRef.start (s : List UInt8) {m : Int} {z : RSt} (h : rdI (false, s) = (m, z)) : DRef s m [] z := by
  have hd := DInv.start s h
  refine ⟨hd.way, fun _ => ?_, hd.ok, hd.room, hd.sz⟩
  have := hd.sz
  simpa using this
theorem DRef.round (h : DRef s m es z) (hs : s.length ≤ 100000) (hz : z.1 = false) (hm : (es.length : Int) < m) (h9 : Nine z n0 n1 n2 n3 n4 t5 t6 n7 n8 z1 z2 z3 z4 z5 z6 z7 z8 z9) (hc : (n2 == 1) = cb) :
    DRef s m (es ++ [⟨n0, n1, cb, n3, n4, t5, t6, n7, n8⟩]) z9 := by
  obtain ⟨g1, g2, g3⟩ := h9.got hc
  have hw := (onWay_next h.way hm).1
  have hok := (Got.mk z).ok (Nat.le_trans h.sz hs)
  have hlen := (Got.mk z).len
  rw [g1, g3] at hw
  rw [g1] at hok
  rw [g3] at hlen
  have hroom := h.room
  have hsz := h.sz
  have hfit := h.fit hz
  rw [hz] at hroom
  simp only [Bool.false_eq_true, if_false, Nat.add_zero] at hroom
  change z9.2.length ≤ z.2.length at hlen
  refine ⟨by rw [List.length_append]; exact hw, fun h8 => ?_, fun r hr => ?_, ?_, Nat.le_trans hlen hsz⟩
  · have := (h9.fit hc h8).1
    rw [List.flatMap_append, List.length_append, List.flatMap_cons, List.flatMap_nil, List.append_nil]
    omega
  · rcases List.mem_append.1 hr with hr | hr
    · exact h.ok r hr
    · rw [List.mem_singleton] at hr
      rw [hr]; exact hok
  · rw [List.length_append, List.length_singleton]
    by_cases h8 : z9.1 = true
    · rw [if_pos h8]; omega
    · have h8' : z9.1 = false := by simpa using h8
      have := (h9.fit hc h8').2
      rw [if_neg h8]; omega
theorem DRef.bad (h : DRef s m es z) (hs : s.length ≤ 100000) (hz : z.1 = true) : NoEnc s :=
  not_of hs fun L hL hl e => by have := (h.way L hL hl e).2.1; rw [hz] at this; cases this
theorem DRef.left (h : DRef s m es z) (hs : s.length ≤ 100000) (hm : m ≤ es.length) (hz : 0 < z.2.length) : NoEnc s :=
  not_of hs fun L hL hl e => by
    obtain ⟨h1, _, _, h4⟩ := h.way L hL hl e
    rw [List.drop_eq_nil_of_le (by omega)] at h4
    rw [h4] at hz
    simp at hz
theorem DRef.no (h : DRef s m es z) (hs : s.length ≤ 100000) (hm : m ≤ es.length) (hn : s ≠ encL es) : NoEnc s :=
  not_of hs fun L hL hl e => by
    obtain ⟨h1, _, h3, _⟩ := h.way L hL hl e
    rw [List.take_of_length_le (by omega)] at h3
    exact hn (by rw [h3]; exact e)
end
theorem rfBad_s (p : Nat) (s : ByteArray) (z : RSt) (w : World) (h : RfS s p w z) :
    Calls Tryz.prog 45 #[.pointer (some ⟨p, 0, none⟩)] w fun e w' => e = .returned (.bool z.1) ∧ w = w' := by
  obtain ⟨k, hk, ha, _⟩ := h
  exact Wr.rfBad_any p s k z.1 w ha
theorem rfLeft_s (p : Nat) (s : ByteArray) (hs : s.size ≤ 1000000) (z : RSt) (w : World) (h : RfS s p w z) (hz : z.1 = false) :
    Calls Tryz.prog 47 #[.pointer (some ⟨p, 0, none⟩)] w fun e w' => e = .returned (.int .i64 (z.2.length : Int)) ∧ RowKit.Below w.heap.size w w' := by
  obtain ⟨k, hk, ha, e2⟩ := h
  obtain ⟨b, q⟩ := z
  simp only at hz
  subst hz
  simp only [Bool.false_eq_true, if_false] at e2
  refine (Wr.rfLeft_any p s (by omega) k hk false w ha).mono fun e w' ⟨he, hb⟩ => ⟨?_, hb⟩
  rw [he, if_neg (by decide), e2, List.length_drop, ← ba_size]
  congr 2
  omega
set_option maxHeartbeats 8000000 in
set_option maxRecDepth 100000 in
theorem refDecode_any (s : ByteArray) (hs : s.size ≤ 100000) (w : World) :
    Calls Tryz.prog 18 #[.string s] w (DecPost s.data.toList w) := by
  have HBZ := Lib.hid (ba_size s)
  have HSL : Hid (s.data.toList.length ≤ 100000) := Lib.hid (by have := HBZ.out; omega)
  have hsz : ¬ (262144 : Int) < (s.size : Int) := by omega
  have hs6 : s.size ≤ 1000000 := by omega
  go_enter Tryz.func18, Tryz.ntmps18
  go_wp2_with fail
  refine (Wr.rfNew_any s w).mono ?_
  rintro x W ⟨p, rfl, hp, hR, hB⟩
  have hR0 : RfS s p W (false, s.data.toList) := ⟨0, Nat.zero_le _, hR, by simp⟩
  have hd0 : DS W p (RfS s p) (false, s.data.toList) (.slice none 0 0) [] W := ⟨Wr.But.refl _ _, hR0.lt, World.ownsRow_nil _ _ _ _, hR0⟩
  obtain ⟨⟨m, z⟩, hz⟩ : ∃ a, rdI (false, s.data.toList) = a := ⟨_, rfl⟩
  have HI0 := Lib.hid (DRef.start _ hz)
  have c0 := fInt_ds W p _ _ _ W s hs6 _ hz hd0
  have hpW := hR0.lt
  clear hR hR0 hd0 hz
  go_wp2_with fail
  refine c0.mono ?_
  rintro x w1 ⟨rfl, hd⟩
  clear c0
  have HF := Lib.hid (show ∀ w', Wr.But p W w' → RowKit.Below w.heap.size w w' from fun w' h => hB.trans (h.below hp hB.size))
  clear hB hp
  go_wp2_with fail
  go_loopw [6, 7] (fun v i wr => ∃ (es : List Req) (k : Nat) (z : RSt), i = .int .i64 k ∧ Hid (es.length = k) ∧ DS W p (RfS s p) z v es wr ∧ Hid (DRef s.data.toList m es z)) (fun _ i _ => 100002 - (RowKit.intOf i).toNat)
  case atStart => exact ⟨[], 0, z, rfl, Lib.hid rfl, hd, HI0⟩
  case round =>
    clear HI0 hd
    obtain ⟨es, k, z, rfl, HK, hd, HI⟩ := hrel
    have hk : k ≤ 100001 := by
      have h1 := HI.out.room
      have h2 := HSL.out
      have h3 := HK.out
      split at h1 <;> omega
    by_cases hlt : (k : Int) < m
    · have cb0 := rfBad_s p s _ _ hd.rd
      obtain ⟨zb, zs⟩ := z
      cases zb
      · go_wp2_with fail
        refine cb0.mono ?_
        rintro x _ ⟨rfl, rfl⟩
        clear cb0
        obtain ⟨n0, n1, n2, n3, n4, t5, t6, n7, n8, z1, z2, z3, z4, z5, z6, z7, z8, z9, h9⟩ := nine (false, zs)
        have H9 := Lib.hid h9
        have c0 := fInt_ds W p _ _ _ wr s hs6 _ h9.e0 hd
        clear h9
        go_wp2_with fail
        refine c0.mono ?_
        rintro x w2 ⟨rfl, hd2⟩
        clear c0 hd
        go_wp2_with fail
        have hb0 := hd2.box (RfS.loc s p) ⟨n0, 0, false, 0, 0, ⟨#[]⟩, ⟨#[]⟩, 0, 0⟩
        have hown := hd2.rows
        have hlo := hd2.but.size
        clear hd2
        simp only [Req.cells] at hb0
        generalize w2.heap.size = eb at hb0 hlo ⊢
        generalize w2.alloc (.cells #[.int .i64 n0, .int .i64 0, .bool false, .int .i64 0, .int .i64 0, .string ⟨#[]⟩, .string ⟨#[]⟩, .int .i64 0, .int .i64 0] 46) = w3 at hb0 ⊢
        have c1 := fInt_db W p _ _ _ eb _ w3 s hs6 _ H9.out.e1 hb0
        go_wp2_with fail
        refine c1.mono ?_
        rintro x w4 ⟨rfl, hr1⟩
        clear c1 hb0
        have fz := hr1.box.frozen 1
        have cc : w4.cell? ⟨eb, 1, none⟩ = some (.int .i64 0) := hr1.box.cell 1
        go_wp2_with fail
        have hb1 := hr1.set (r' := ⟨n0, n1, false, 0, 0, ⟨#[]⟩, ⟨#[]⟩, 0, 0⟩) (RfS.loc s p) 1 (.int .i64 n1) rfl
        generalize w4.setCell ⟨eb, 1, none⟩ (.int .i64 n1) = w5 at hb1 ⊢
        clear hr1 fz cc
        have c2 := fInt_db W p _ _ _ eb _ w5 s hs6 _ H9.out.e2 hb1
        go_wp2_with fail
        refine c2.mono ?_
        rintro x w6 ⟨rfl, hr2⟩
        clear c2 hb1
        have fz := hr2.box.frozen 2
        have cc : w6.cell? ⟨eb, 2, none⟩ = some (.bool false) := hr2.box.cell 2
        obtain ⟨cb, hcb⟩ : ∃ cb, (n2 == 1) = cb := ⟨_, rfl⟩
        go_wp2_with fail
        have hb2 := hr2.set (r' := ⟨n0, n1, cb, 0, 0, ⟨#[]⟩, ⟨#[]⟩, 0, 0⟩) (RfS.loc s p) 2 (.bool cb) rfl
        generalize w6.setCell ⟨eb, 2, none⟩ (.bool cb) = w7 at hb2 ⊢
        clear hr2 fz cc
        have HC := Lib.hid hcb
        clear hcb
        have c3 := fInt_db W p _ _ _ eb _ w7 s hs6 _ H9.out.e3 hb2
        go_wp2_with fail
        refine c3.mono ?_
        rintro x w8 ⟨rfl, hr3⟩
        clear c3 hb2
        have fz := hr3.box.frozen 3
        have cc : w8.cell? ⟨eb, 3, none⟩ = some (.int .i64 0) := hr3.box.cell 3
        go_wp2_with fail
        have hb3 := hr3.set (r' := ⟨n0, n1, cb, n3, 0, ⟨#[]⟩, ⟨#[]⟩, 0, 0⟩) (RfS.loc s p) 3 (.int .i64 n3) rfl
        generalize w8.setCell ⟨eb, 3, none⟩ (.int .i64 n3) = w9 at hb3 ⊢
        clear hr3 fz cc
        have c4 := fInt_db W p _ _ _ eb _ w9 s hs6 _ H9.out.e4 hb3
        go_wp2_with fail
        refine c4.mono ?_
        rintro x w10 ⟨rfl, hr4⟩
        clear c4 hb3
        have fz := hr4.box.frozen 4
        have cc : w10.cell? ⟨eb, 4, none⟩ = some (.int .i64 0) := hr4.box.cell 4
        go_wp2_with fail
        have hb4 := hr4.set (r' := ⟨n0, n1, cb, n3, n4, ⟨#[]⟩, ⟨#[]⟩, 0, 0⟩) (RfS.loc s p) 4 (.int .i64 n4) rfl
        generalize w10.setCell ⟨eb, 4, none⟩ (.int .i64 n4) = w11 at hb4 ⊢
        clear hr4 fz cc
        have c5 := fText_db W p _ _ _ eb _ w11 s hs6 _ H9.out.e5 hb4
        go_wp2_with fail
        refine c5.mono ?_
        rintro x w12 ⟨rfl, hr5⟩
        clear c5 hb4
        have fz := hr5.box.frozen 5
        have cc : w12.cell? ⟨eb, 5, none⟩ = some (.string ⟨#[]⟩) := hr5.box.cell 5
        go_wp2_with fail
        have hb5 := hr5.set (r' := ⟨n0, n1, cb, n3, n4, t5, ⟨#[]⟩, 0, 0⟩) (RfS.loc s p) 5 (.string t5) rfl
        generalize w12.setCell ⟨eb, 5, none⟩ (.string t5) = w13 at hb5 ⊢
        clear hr5 fz cc
        have c6 := fText_db W p _ _ _ eb _ w13 s hs6 _ H9.out.e6 hb5
        go_wp2_with fail
        refine c6.mono ?_
        rintro x w14 ⟨rfl, hr6⟩
        clear c6 hb5
        have fz := hr6.box.frozen 6
        have cc : w14.cell? ⟨eb, 6, none⟩ = some (.string ⟨#[]⟩) := hr6.box.cell 6
        go_wp2_with fail
        have hb6 := hr6.set (r' := ⟨n0, n1, cb, n3, n4, t5, t6, 0, 0⟩) (RfS.loc s p) 6 (.string t6) rfl
        generalize w14.setCell ⟨eb, 6, none⟩ (.string t6) = w15 at hb6 ⊢
        clear hr6 fz cc
        have c7 := fInt_db W p _ _ _ eb _ w15 s hs6 _ H9.out.e7 hb6
        go_wp2_with fail
        refine c7.mono ?_
        rintro x w16 ⟨rfl, hr7⟩
        clear c7 hb6
        have fz := hr7.box.frozen 7
        have cc : w16.cell? ⟨eb, 7, none⟩ = some (.int .i64 0) := hr7.box.cell 7
        go_wp2_with fail
        have hb7 := hr7.set (r' := ⟨n0, n1, cb, n3, n4, t5, t6, n7, 0⟩) (RfS.loc s p) 7 (.int .i64 n7) rfl
        generalize w16.setCell ⟨eb, 7, none⟩ (.int .i64 n7) = w17 at hb7 ⊢
        clear hr7 fz cc
        have c8 := fInt_db W p _ _ _ eb _ w17 s hs6 _ H9.out.e8 hb7
        go_wp2_with fail
        refine c8.mono ?_
        rintro x w18 ⟨rfl, hr8⟩
        clear c8 hb7
        have fz := hr8.box.frozen 8
        have cc : w18.cell? ⟨eb, 8, none⟩ = some (.int .i64 0) := hr8.box.cell 8
        have hb8 := hr8.set (r' := ⟨n0, n1, cb, n3, n4, t5, t6, n7, n8⟩) (RfS.loc s p) 8 (.int .i64 n8) rfl
        have hat := hb8.box.at_
        have hlen : es.length + 1 ≤ 1000000 := by rw [HK.out]; omega
        go_wp2_with (first
          | ((with_reducible refine wpList_load_mid (op := ⟨some 55, _, _, _, _, _⟩) ?_ 46 (.tmp 8) ?_ eb 0 ?_ (Req.cells ⟨n0, n1, cb, n3, n4, t5, t6, n7, n8⟩).toList _ ?_ Tryz.underlying46 ?_ ?_ ?_); rfl; rfl; rfl; exact hat; rfl; kernel_rfl)
          | (at_builtin; go_must (refine wpList_append_reqs rfl (.tmp 54) (.tmp 56) rfl W.heap.size _ _ es [⟨n0, n1, cb, n3, n4, t5, t6, n7, n8⟩] rfl rfl (hb8.ds.rows.alloc _) (reqs_one_at _ ⟨n0, n1, cb, n3, n4, t5, t6, n7, n8⟩ _ (setCell_size _ _ _)) hlen (by have := hb8.ds.but.size; simp at this ⊢; omega) ?_); intro v' wd hown' hg'))
        go_wp2_with fail
        have hd' := hb8.ds.append (RfS.loc s p) ⟨n0, n1, cb, n3, n4, t5, t6, n7, n8⟩ hown' hg'
        have hlk : (k : Int) < (es.length : Int) + 1 := by rw [HK.out]; omega
        refine ⟨⟨_, k + 1, _, by go_num, Lib.hid (by rw [List.length_append, HK.out]; rfl), hd', Lib.hid (HI.out.round HSL.out rfl (by rw [HK.out]; exact hlt) H9.out HC.out)⟩, by simp [RowKit.intOf]; omega⟩
      · go_wp2_with fail
        refine cb0.mono ?_
        rintro x _ ⟨rfl, rfl⟩
        go_wp2_with fail
        refine cb0.mono ?_
        rintro x _ ⟨rfl, rfl⟩
        go_wp2_with fail
        refine bodyPost_ret (results_tmp2 rfl _ _ _) rfl ?_
        exact ⟨.inr ⟨rfl, HI.out.bad HSL.out rfl⟩, HF.out _ hd.but⟩
    · have cb0 := rfBad_s p s _ _ hd.rd
      have HM : Hid (m ≤ (es.length : Int)) := Lib.hid (by rw [HK.out]; omega)
      obtain ⟨zb, zs⟩ := z
      go_wp2_with fail
      refine cb0.mono ?_
      rintro x _ ⟨rfl, rfl⟩
      clear cb0
      cases zb
      · have cl0 := rfLeft_s p s hs6 _ _ hd.rd rfl
        go_wp2_with fail
        refine cl0.mono ?_
        rintro x w4 ⟨rfl, hb4⟩
        clear cl0
        have hd4 := hd.below (RfS.loc s p) hb4
        clear hb4 hd
        by_cases hq : zs.length = 0
        · have ce := refEncode_all _ es w4 (reqsIn_own hd4.rows) (by rw [HK.out]; omega) HI.out.ok (by have := HI.out.fit rfl; have := HSL.out; omega)
          obtain ⟨S, hS⟩ : ∃ S : ByteArray, S = ⟨(encL es).toArray⟩ := ⟨_, rfl⟩
          rw [← hS] at ce
          have HS := Lib.hid hS
          clear hS
          go_wp2_with fail
          refine ce.mono ?_
          rintro x w5 ⟨rfl, hb5⟩
          clear ce
          have hd5 := hd4.below (RfS.loc s p) hb5
          by_cases hes : S = s
          · subst hes
            go_wp2_with fail
            refine bodyPost_ret (results_tmp2 rfl _ _ _) rfl ?_
            exact ⟨.inl ⟨_, es, rfl, by rw [HS.out], HI.out.ok, by rw [HK.out]; exact hk, reqsIn_own hd5.rows⟩, HF.out _ hd5.but⟩
          · have hne : (S.toList == s.toList) = false := by rw [beq_eq_false_iff_ne]; exact fun h => hes (req_ba.1 h)
            go_wp2_with fail
            refine bodyPost_ret (results_tmp2 rfl _ _ _) rfl ?_
            exact ⟨.inr ⟨rfl, HI.out.no HSL.out HM.out (fun e => hes (by rw [HS.out]; exact ba_ext (by rw [e])))⟩, HF.out _ hd5.but⟩
        · go_wp2_with fail
          refine bodyPost_ret (results_tmp2 rfl _ _ _) rfl ?_
          exact ⟨.inr ⟨rfl, HI.out.left HSL.out HM.out (Nat.pos_of_ne_zero hq)⟩, HF.out _ hd4.but⟩
      · go_wp2_with fail
        refine bodyPost_ret (results_tmp2 rfl _ _ _) rfl ?_
        exact ⟨.inr ⟨rfl, HI.out.bad HSL.out rfl⟩, HF.out _ hd.but⟩
end Go.Proofs.YtanmmooflhomoaaGreatDoor
namespace Go.Proofs.YtanmmooflhomoaaGreatDoor
open Go Go.Proofs Go.RowKit Go.Sort Go.Lib
attribute [local go_sem] Req.cells

theorem var_lt {w : World} {n : String} {cs : Array Value} {g : Nat} (hg : Tryz.prog.globalNamed n = some g) (h : w.var? Tryz.prog n = some cs) : g < w.heap.size := by
  unfold World.var? at h
  rw [hg] at h
  simp only [Option.bind_some] at h
  rcases Nat.lt_or_ge g w.heap.size with hx | hx
  · exact hx
  · rw [Array.getElem?_eq_none hx] at h; cases h
theorem past_of {w : World} (hs : Wr.Sane w) (hv : Wr.ErrVars w) {p : Nat} (hp : w.heap.size ≤ p) : Wr.Past p := by
  obtain ⟨⟨h1, m, h2⟩, ⟨t1, p1, e1⟩, t2, p2, e2⟩ := And.intro hs hv
  have a1 := h1.lt
  have a2 := World.block_lt_of_cell? w _ h2
  have a3 := var_lt (g := 2) (by kernel_rfl) e1
  have a4 := var_lt (g := 3) (by kernel_rfl) e2
  unfold Wr.Past
  simp only at a2
  omega
theorem RawIn.below {w w' : World} {v : Value} {L : List Req} (h : RawIn w v L) (hb : RowKit.Below w.heap.size w w') : RawIn w' v L := ⟨h.1, fun h0 => (h.2 h0).below hb⟩
set_option maxHeartbeats 16000000 in
set_option maxRecDepth 100000 in
theorem codes_law (A0 A1 A2 : Option Addr) (n0 n1 n2 c0 c1 c2 : Nat) (q0 q1 q2 : Int) (vr : Value) (Lr : List Req) (ta tc : Int) (tin s : ByteArray) (w : World) (h0 : IntssIn w.heap.size A0 n0 w) (h1 : IntssIn w.heap.size A1 n1 w) (h2 : IntssIn w.heap.size A2 n2 w) (i0 : I64 q0) (i1 : I64 q1) (i2 : I64 q2) (hr : RawIn w vr Lr) (hrw : ∀ r ∈ Lr, r.wf) (ta0 : 0 ≤ ta) (ta1 : ta ≤ 65535) (tc0 : 0 ≤ tc) (tc1 : tc ≤ 255) (hts : Wr.Sane w) (htv : Wr.ErrVars w) :
    Calls Tryz.prog 4 #[.agg #[.slice A0 n0 c0, .slice A1 n1 c1, .slice A2 n2 c2, .int .i64 q0, .int .i64 q1, .int .i64 q2], vr, .agg #[.int .u16 ta, .int .u8 tc, .string tin], .string s] w fun x w' => x = .returned (.bool true) ∧ RowKit.Below w.heap.size w w' := by
  have H0 := Lib.hid h0
  have H1 := Lib.hid h1
  have H2 := Lib.hid h2
  have HT := Lib.hid hts.1
  have HTS := Lib.hid hts
  have HTV := Lib.hid htv
  have HP := Lib.hid (fun p (hp : w.heap.size ≤ p) => past_of hts htv hp)
  have HRW := Lib.hid hrw
  have HRR := Lib.hid hr
  clear h0 h1 h2 hts htv hrw hr
  have hb0 : RowKit.Below w.heap.size w (w.alloc (.cells #[.slice A0 n0 c0, .slice A1 n1 c1, .slice A2 n2 c2, .int .i64 q0, .int .i64 q1, .int .i64 q2] 25)) := below_alloc1 _ _
  have hc0 : ∀ j, (w.alloc (.cells #[.slice A0 n0 c0, .slice A1 n1 c1, .slice A2 n2 c2, .int .i64 q0, .int .i64 q1, .int .i64 q2] 25)).cell? ⟨w.heap.size, j, none⟩ = (#[.slice A0 n0 c0, .slice A1 n1 c1, .slice A2 n2 c2, .int .i64 q0, .int .i64 q1, .int .i64 q2] : Array Value)[j]? := fun j => Lib.cell_of_heap (heap_alloc_new w _) j
  have hl0 : w.heap.size < (w.alloc (.cells #[.slice A0 n0 c0, .slice A1 n1 c1, .slice A2 n2 c2, .int .i64 q0, .int .i64 q1, .int .i64 q2] 25)).heap.size := by simp
  go_enter Tryz.func4, Tryz.ntmps4
  go_wp2_with fail
  have hwc : (w.alloc (.cells #[.slice A0 n0 c0, .slice A1 n1 c1, .slice A2 n2 c2, .int .i64 q0, .int .i64 q1, .int .i64 q2] 25)).heap.size = w.heap.size + 1 := by simp
  generalize w.alloc (.cells #[.slice A0 n0 c0, .slice A1 n1 c1, .slice A2 n2 c2, .int .i64 q0, .int .i64 q1, .int .i64 q2] 25) = wc at hb0 hc0 hl0 hwc ⊢
  have hx0 : ∀ j, (wc.alloc (.cells #[.int .u16 ta, .int .u8 tc, .string tin] 39)).cell? ⟨w.heap.size + 1, j, none⟩ = (#[.int .u16 ta, .int .u8 tc, .string tin] : Array Value)[j]? := fun j => by rw [← hwc]; exact Lib.cell_of_heap (heap_alloc_new wc _) j
  have hxl : w.heap.size + 1 < (wc.alloc (.cells #[.int .u16 ta, .int .u8 tc, .string tin] 39)).heap.size := by simp; omega
  replace hc0 := old_keep hl0 (below_alloc1 wc (.cells #[.int .u16 ta, .int .u8 tc, .string tin] 39)) hc0
  replace hl0 : w.heap.size < (wc.alloc (.cells #[.int .u16 ta, .int .u8 tc, .string tin] 39)).heap.size := by simp; omega
  replace hb0 := below_next hb0 (below_alloc1 wc (.cells #[.int .u16 ta, .int .u8 tc, .string tin] 39))
  generalize wc.alloc (.cells #[.int .u16 ta, .int .u8 tc, .string tin] 39) = w0 at hb0 hc0 hl0 hx0 hxl ⊢
  clear hwc
  refine (sanity_any _ (HT.out.below hb0)).mono ?_
  rintro _ w1 ⟨rfl, hb⟩
  have hc1 := old_keep hl0 hb hc0
  have hx1 := old_keep hxl hb hx0
  have hxl1 := Nat.lt_of_lt_of_le hxl hb.size
  have hb1 := below_next hb0 hb
  clear hb hc0 hb0 hl0 hx0 hxl
  go_wp2_with fail
  refine (case_any A0 A1 A2 n0 n1 n2 c0 c1 c2 q0 q1 q2 w1 (H0.out.at_ hb1) (H1.out.at_ hb1) (H2.out.at_ hb1) i0 i1 i2).mono ?_
  rintro _ w2 ⟨va, vb, vd, A, B, D, rfl, hC⟩
  have ra := reqsIn_own hC.a
  have oa := hC.a
  have hbz := hb1.size
  have hbz2 := hC.below.size
  have hxq := hxl1
  have rb := hC.b
  have od := row_base hC.d hb1.size
  have hne := hC.ne
  have ld := hC.ld
  have SD := Lib.hid hC.sd
  have hb2 := below_next hb1 hC.below
  have hx2 := old_keep hxl1 hC.below hx1
  have hxl2 := Nat.lt_of_lt_of_le hxl1 hC.below.size
  have la := hC.la
  have lb := hC.lb
  have SA := Lib.hid hC.sa
  have SB := Lib.hid hC.sb
  clear hC hc1 hb1 hx1 hxl1
  have rr := HRR.out.below hb2
  obtain ⟨sa, ca, hva, _⟩ := ra.form
  obtain ⟨sb, cb, hvb, _⟩ := rb.form
  subst hva hvb
  go_wp2_with fail
  refine (cut_any vr Lr _ rr HRW.out).mono ?_
  rintro _ w5 ⟨v20, C, rfl, lc, sc, rc, hb⟩
  have oa5 := rows_below oa hb
  replace ra := ra.below hb
  replace rb := rb.below hb
  replace hb2 := below_next hb2 hb
  replace hx2 := old_keep hxl2 hb hx2
  replace hxl2 := Nat.lt_of_lt_of_le hxl2 hb.size
  obtain ⟨D2, hD2⟩ : ∃ D2, D2 = A ++ C := ⟨_, rfl⟩
  have HD2 := Lib.hid hD2
  have SD2 : Hid (∀ r ∈ D2, r.Small) := Lib.hid (by rw [hD2]; exact small_app SA.out sc)
  have ld2 : D2.length ≤ 30 := by rw [hD2]; simp; omega
  have hbz3 := hb.size
  clear hD2 hb rr sc hne od ra rb ld SD
  have hX6 : ∀ w6, w5.grownBy w6 (Value.slice sa A.length ca).ownBlock → ∀ j, w6.cell? ⟨w.heap.size + 1, j, none⟩ = (#[.int .u16 ta, .int .u8 tc, .string tin] : Array Value)[j]? := fun w6 hg j =>
    (cell_of_block (hg.block (w.heap.size + 1) hxl2 (fun h => absurd (oa5.lt _ h.symm).1 (by omega))) j).1.trans (hx2 j)
  have HX6 := Lib.hid hX6
  have hlo5 : w1.heap.size ≤ w5.heap.size := by omega
  clear hX6 hx2
  go_wp2_with (at_builtin; refine wpList_append_reqs rfl (.tmp 32) (.tmp 34) rfl w1.heap.size _ _ A C rfl rfl oa5 rc (by omega) hlo5 ?_; intro v6 w6 hown6 hg6; rw [← HD2.out] at hown6; have hb6 : RowKit.Below w.heap.size w w6 := hb2.grown hg6 hb2.size (fun q hq => Nat.le_trans hbz (oa5.lt q hq).1); have hx6 := HX6.out w6 hg6; have rd6 := reqsIn_own hown6; obtain ⟨sd, cd, rfl⟩ := own_nil hown6)
  have hxl6 : w.heap.size + 1 < w6.heap.size := World.block_lt_of_cell? w6 _ (by rw [hx6 0]; rfl)
  clear hg6 hown6 HX6 oa5 rc hxl2 hbz hbz2 hbz3 hxq hlo5 hb2
  obtain ⟨S, hS⟩ : ∃ S : ByteArray, S = ⟨(encL D2).toArray⟩ := ⟨_, rfl⟩
  have hSz : S.size ≤ 7000 := by
    have h1 := wInt_len (D2.length : Int) (by omega) (by omega)
    have h2 := encs_small D2 SD2.out
    have h3 : (encL D2).length ≤ 7000 := by simp only [encL, List.length_append]; omega
    rw [hS, ba_size]
    simpa using h3
  have ce := encode_any _ D2 w6 rd6 (by omega) (fun r hr => (SD2.out r hr).ok) (fun r hr => ⟨by have := (SD2.out r hr).code; omega, by have := (SD2.out r hr).give; omega⟩) (HT.out.below hb6)
  rw [← hS] at ce
  have HS := Lib.hid hS
  clear hS
  refine ce.mono ?_
  rintro _ w7 ⟨rfl, hb⟩
  have hx7 := old_keep hxl6 hb hx6
  have hxl7 := Nat.lt_of_lt_of_le hxl6 hb.size
  have hb7 := below_next hb6 hb
  have rd7 := rd6.below hb
  clear ce hb hb6 hx6 hxl6 rd6
  go_wp2_with fail
  refine (decode_any S (by omega) w7 (HTS.out.below hb7) (HTV.out.below hb7) (fun p hp => HP.out p (Nat.le_trans hb7.size hp))).mono ?_
  rintro _ w8 ⟨hh, hb⟩
  have hSd : S.data.toList = encL D2 := by rw [HS.out]
  rcases hh with ⟨v, L, rfl, heq, _, _, rv⟩ | ⟨_, hno⟩
  rotate_left 1
  · exact absurd ⟨D2, fun r hr => (SD2.out r hr).ok, hSd⟩ hno
  obtain rfl : L = D2 := (encL_inj (hSd.symm.trans heq)).symm
  have hx8 := old_keep hxl7 hb hx7
  have hxl8 := Nat.lt_of_lt_of_le hxl7 hb.size
  have hb8 := below_next hb7 hb
  have rd8 := rd7.below hb
  have ce := refEncode_any _ L w8 rd8 (by omega) SD2.out
  rw [← HS.out] at ce
  clear hb hb7 hx7 hxl7 rd7 heq hSd
  go_wp2_with fail
  refine ce.mono ?_
  rintro _ w9 ⟨rfl, hb⟩
  have hx9 := old_keep hxl8 hb hx8
  have hxl9 := Nat.lt_of_lt_of_le hxl8 hb.size
  have hb9 := below_next hb8 hb
  have rd9 := rd8.below hb
  have rv9 := rv.below hb
  clear ce hb hb8 hx8 hxl8 rd8 rv
  have cs := same_any _ _ L L w9 rv9 rd9 (by omega)
  go_wp2_with fail
  refine cs.mono ?_
  rintro _ w10 ⟨t, rfl, ht, hb⟩
  obtain rfl : t = true := by simpa using ht
  have hx10 := old_keep hxl9 hb hx9
  have hxl10 := Nat.lt_of_lt_of_le hxl9 hb.size
  have hb10 := below_next hb9 hb
  clear cs hb hb9 hx9 hxl9 rd9 rv9 ht
  have y0 : w10.cell? ⟨w.heap.size + 1, 0, none⟩ = some (.int .u16 ta) := hx10 0
  have y1 : w10.cell? ⟨w.heap.size + 1, 1, none⟩ = some (.int .u8 tc) := hx10 1
  have y2 : w10.cell? ⟨w.heap.size + 1, 2, none⟩ = some (.string tin) := hx10 2
  clear hx10
  obtain ⟨at_, hat, hat2⟩ : ∃ a : Nat, ta.tmod ((S.size : Int) + 1) = a ∧ a ≤ S.size := ⟨(ta % ((S.size : Int) + 1)).toNat, by rw [Int.tmod_eq_emod_of_nonneg ta0, Int.toNat_of_nonneg (Int.emod_nonneg _ (by omega))], by have h1 := Int.emod_lt_of_pos ta (show 0 < (S.size : Int) + 1 by omega); have h2 := Int.emod_nonneg ta (show (S.size : Int) + 1 ≠ 0 by omega); omega⟩
  have hne1 : ((S.size : Int) + 1 == 0) = false := by simp; omega
  go_wp2_with fail
  obtain ⟨k4, hk4, hk5⟩ : ∃ k : Nat, tc.tmod 4 = k ∧ k ≤ 3 := ⟨(tc.tmod 4).toNat, by rw [Int.tmod_eq_emod_of_nonneg tc0]; omega, by rw [Int.tmod_eq_emod_of_nonneg tc0]; omega⟩
  have m0 : (0 : Int) ≤ min (tin.size : Int) 20 := by omega
  have m1 : min (tin.size : Int) 20 ≤ tin.size := by omega
  have m2 : (0 : Int) ≤ min (S.size : Int) ((at_ : Int) + k4) := by omega
  have m3 : min (S.size : Int) ((at_ : Int) + k4) ≤ S.size := by omega
  go_quiet (fail)
  have hX : (S.extract 0 at_ ++ tin.extract 0 (min (tin.size : Int) 20).toNat ++ S.extract (min (S.size : Int) ((at_ : Int) + k4)).toNat S.size).size ≤ 100000 := by
    simp only [ByteArray.size_append, ByteArray.size_extract]
    omega
  have hY : (S.extract 0 at_).size ≤ 100000 := by
    simp only [ByteArray.size_extract]
    omega
  have hZ : (s.extract 0 (min (s.size : Int) 60).toNat).size ≤ 100000 := by
    simp only [ByteArray.size_extract]
    omega
  generalize S.extract 0 at_ ++ tin.extract 0 (min (tin.size : Int) 20).toNat ++ S.extract (min (S.size : Int) ((at_ : Int) + k4)).toNat S.size = X at hX ⊢
  have hb11 : RowKit.Below w.heap.size w (w10.drewN nq) := Wr.below_drewN' hb10 _
  have hl11 : w.heap.size ≤ (w10.drewN nq).heap.size := hb11.size
  clear y0 y1 y2 m0 m1 m2 m3 hk4 hk5 hat hxl10 hb10 hne1
  generalize w10.drewN nq = w11 at hb11 hl11 ⊢
  have m4 : (0 : Int) ≤ min (s.size : Int) 60 := by omega
  have m5 : min (s.size : Int) 60 ≤ s.size := by omega
  go_wp2_with fail
  go_region
  generalize s.extract 0 (min (s.size : Int) 60).toNat = Y at hZ ⊢
  generalize S.extract 0 at_ = Z at hY ⊢
  have hb12 : RowKit.Below w.heap.size w ((w11.alloc (.cells #[.string X, .string Y, .string Z] 9)).drew) := (hb11.alloc hl11 _).drew
  have hl12 : w11.heap.size < ((w11.alloc (.cells #[.string X, .string Y, .string Z] 9)).drew).heap.size := by
    show w11.heap.size < (w11.alloc _).heap.size
    simp
  have hc12 : ∀ j, ((w11.alloc (.cells #[.string X, .string Y, .string Z] 9)).drew).cell? ⟨w11.heap.size, j, none⟩ = (#[.string X, .string Y, .string Z] : Array Value)[j]? := fun j => Lib.cell_of_heap (w := w11.alloc (.cells #[.string X, .string Y, .string Z] 9)) (heap_alloc_new w11 _) j
  generalize (w11.alloc (.cells #[.string X, .string Y, .string Z] 9)).drew = w12 at hb12 hl12 hc12 ⊢
  generalize w11.heap.size = gb at hl12 hc12 hl11 ⊢
  have HGET : Hid (∀ k, k < 3 → ∃ x : ByteArray, w12.cell? ⟨gb, k, none⟩ = some (.string x) ∧ x.size ≤ 100000) := Lib.hid (by
    intro k hk
    match k, hk with
    | 0, _ => exact ⟨X, hc12 0, hX⟩
    | 1, _ => exact ⟨Y, hc12 1, hZ⟩
    | 2, _ => exact ⟨Z, hc12 2, hY⟩)
  have HW := Lib.hid hb12
  clear hc12 hX hY hZ hb12 hb11 m4 m5
  go_wp2_with fail
  go_loopw [98] (fun i wr => ∃ k : Nat, k ≤ 3 ∧ i = .int .i64 k ∧ RowKit.Below w12.heap.size w12 wr) (fun i _ => 3 - (RowKit.intOf i).toNat)
  case atStart => exact ⟨0, by omega, rfl, Below.refl _ _⟩
  case round =>
    obtain ⟨k, hk, rfl, hbr⟩ := hrel
    by_cases hlt : k < 3
    · obtain ⟨x, hx, hxs⟩ := HGET.out k hlt
      have hxr : wr.cell? ⟨gb, k, none⟩ = some (.string x) := (hbr.cell (p := ⟨gb, k, none⟩) hl12).trans hx
      clear hx
      have h3 : (k : Int) < 3 := by omega
      have hbw := below_next HW.out hbr
      go_wp2_with fail
      refine (decode_any x hxs wr (HTS.out.below hbw) (HTV.out.below hbw) (fun p hp => HP.out p (Nat.le_trans hbw.size hp))).mono ?_
      rintro _ wa ⟨hh, hb⟩
      have hba := below_next hbr hb
      clear hbr hbw hb hxr
      rcases hh with ⟨v1, L1, rfl, e1, _, l1, r1⟩ | ⟨rfl, no1⟩
      · go_wp2_with fail
        refine (refDecode_any x hxs wa).mono ?_
        rintro _ wb ⟨hh, hb⟩
        have hbb := below_next hba hb
        replace r1 := r1.below hb
        rcases hh with ⟨v2, L2, rfl, e2, _, _, r2⟩ | ⟨_, no2⟩
        · obtain rfl : L1 = L2 := encL_inj (e1.symm.trans e2)
          have cs := same_any _ _ L1 L1 wb r1 r2 (by omega)
          clear hb hba r1 r2 e1 e2
          go_wp2_with fail
          refine cs.mono ?_
          rintro _ wd ⟨t, rfl, ht, hb⟩
          obtain rfl : t = true := by simpa using ht
          have hbd := below_next hbb hb
          clear cs hb hbb ht
          go_wp2_with fail
          go_roundw
          case rel => exact ⟨k + 1, by omega, by go_num, hbd⟩
          case measure => simp [RowKit.intOf]; omega
        · exact absurd ⟨L1, ‹∀ r ∈ L1, r.Ok›, e1⟩ no2
      · go_wp2_with fail
        refine (refDecode_any x hxs wa).mono ?_
        rintro _ wb ⟨hh, hb⟩
        have hbb := below_next hba hb
        rcases hh with ⟨v2, L2, _, e2, ok2, _, _⟩ | ⟨rfl, _⟩
        · exact absurd ⟨L2, ok2, e2⟩ no1
        · have cs := same_any (.slice none 0 0) (.slice none 0 0) [] [] wb (.inl ⟨rfl, rfl⟩) (.inl ⟨rfl, rfl⟩) (by simp)
          clear hb hba no1
          go_wp2_with fail
          refine cs.mono ?_
          rintro _ wd ⟨t, rfl, ht, hb⟩
          obtain rfl : t = true := by simpa using ht
          have hbd := below_next hbb hb
          clear cs hb hbb ht
          go_wp2_with fail
          go_roundw
          case rel => exact ⟨k + 1, by omega, by go_num, hbd⟩
          case measure => simp [RowKit.intOf]; omega
    · obtain rfl : k = 3 := by omega
      go_wp2_with fail
      go_ret
      exact ⟨rfl, below_next HW.out hbr⟩
end Go.Proofs.YtanmmooflhomoaaGreatDoor
