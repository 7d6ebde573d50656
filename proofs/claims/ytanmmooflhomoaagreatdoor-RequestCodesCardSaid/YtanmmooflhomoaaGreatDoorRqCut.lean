/- quadriviumlaw27.cut: at most 6 requests, with short texts. -/
import Derived.Test.YtanmmooflhomoaaGreatDoorRqOpn
import Derived.Laws.Cover1
import Derived.BigRegion
namespace Go.Proofs.YtanmmooflhomoaaGreatDoor
open Go Go.Proofs Go.RowKit Go.Sort Go.Lib
attribute [local go_sem] Req.cells

/-- The first 12 bytes. -/
def cut12 (s : ByteArray) : ByteArray := ⟨(s.data.toList.take 12).toArray⟩
theorem cut12_size (s : ByteArray) : (cut12 s).size ≤ 12 := by
  rw [ba_size]; simp [cut12]; omega
theorem cut12_min (s : ByteArray) : s.extract 0 (min (s.size : Int) 12).toNat = cut12 s := by
  refine ba_ext ?_
  have : (min (s.size : Int) 12).toNat = min s.size 12 := by omega
  rw [this, ByteArray.data_extract]
  simp [cut12]
  rw [Nat.min_comm]
def Req.cut (r : Req) : Req := { r with code := cut12 r.code, give := cut12 r.give }
theorem Req.cut_small {r : Req} (h : r.wf) : r.cut.Small := by
  have h1 : ∀ n, (Lit.int .i64 n).wf = true → I64 n := fun n hn => by
    simp [Lit.wf, IntKind.min, IntKind.max, IntKind.signed, IntKind.bits] at hn
    unfold I64; omega
  exact small_mk ⟨h1 _ h.1, h1 _ h.2.1, h1 _ h.2.2.1, h1 _ h.2.2.2.1, h1 _ h.2.2.2.2.2.2.1, h1 _ h.2.2.2.2.2.2.2⟩ (cut12_size _) (cut12_size _)
/-- What cut leaves. -/
def CutPost (w : World) (x : Ending) (w' : World) : Prop := ∃ v M, x = .returned v ∧ M.length ≤ 6 ∧ (∀ r ∈ M, r.Small) ∧ ReqsIn w' v M ∧ RowKit.Below w.heap.size w w'
set_option maxHeartbeats 8000000 in
set_option maxRecDepth 100000 in
theorem cut_any (v : Value) (L : List Req) (w : World) (hv : RawIn w v L) (hs : ∀ r ∈ L, r.wf) :
    Calls Tryz.prog 7 #[v] w (CutPost w) := by
  obtain ⟨⟨sL, cL, rfl⟩, hv⟩ := hv
  have HV := Lib.hid hv
  have HS := Lib.hid hs
  clear hv hs
  go_enter Tryz.func7, Tryz.ntmps7
  go_wp2_with fail
  go_loopw [3, 4] (fun u i wr => ∃ (k : Nat) (M : List Req), k ≤ L.length ∧ k ≤ 6 ∧ i = .int .i64 k ∧ Hid (M.length = k) ∧ Hid (∀ r ∈ M, r.Small) ∧ wr.ownsRow w.heap.size 46 9 u M.length (reqCells M) ∧ RowKit.Below w.heap.size w wr) (fun _ i _ => 6 - (RowKit.intOf i).toNat)
  case atStart => exact ⟨0, [], Nat.zero_le _, by omega, rfl, Lib.hid rfl, Lib.hid (by simp), World.ownsRow_nil _ _ _ _, Below.refl _ _⟩
  case round =>
    obtain ⟨k, M, hk, hk6, rfl, HM, HSM, hown, hbr⟩ := hrel
    by_cases hlt : k < L.length
    · by_cases h6 : k < 6
      · obtain ⟨b, o, c', hva, _, hgl, hat⟩ := (HV.out (by omega)).at_ (by omega)
        have e1 := (Value.slice.inj hva).1
        subst e1
        have hx := List.getElem?_eq_getElem hlt
        have hxw := HS.out _ (List.getElem_mem hlt)
        generalize L[k] = x at hx hxw
        have haty := (hat k x hx).below hbr hgl
        have hc1 : x.code.size ≤ 9223372036854775807 := hxw.2.2.2.2.1
        have hc2 : x.give.size ≤ 9223372036854775807 := hxw.2.2.2.2.2.1
        have hml : M.length + 1 ≤ 1000000 := by rw [HM.out]; omega
        have HXW := Lib.hid hxw
        clear hva hat hx hxw
        go_wp2_with ((with_reducible refine wpList_load_mid (op := ⟨some 19, _, _, _, _, _⟩) ?_ 46 (.tmp 18) ?_ b (o + k * 9) ?_ (Req.cells x).toList _ ?_ Tryz.underlying46 ?_ ?_ ?_); rfl; rfl; rfl; exact haty; rfl; kernel_rfl)
        go_region
        have hcut : (⟨x.server, x.seq, x.cancel, x.student, x.term, x.code.extract 0 (min (x.code.size : Int) 12).toNat, x.give.extract 0 (min (x.give.size : Int) 12).toNat, x.priority, x.day⟩ : Req) = x.cut := by simp only [cut12_min]; rfl
        have HCUT := Lib.hid hcut
        clear hcut
        go_wp2_with (at_builtin; go_must (refine wpList_append_reqs rfl (.tmp 36) (.tmp 38) rfl w.heap.size _ _ M [⟨x.server, x.seq, x.cancel, x.student, x.term, x.code.extract 0 (min (x.code.size : Int) 12).toNat, x.give.extract 0 (min (x.give.size : Int) 12).toNat, x.priority, x.day⟩] rfl rfl ((hown.alloc _).alloc _) (reqs_one_at _ ⟨x.server, x.seq, x.cancel, x.student, x.term, x.code.extract 0 (min (x.code.size : Int) 12).toNat, x.give.extract 0 (min (x.give.size : Int) 12).toNat, x.priority, x.day⟩ (wr.heap.size + 1) (by simp)) hml (by have := hbr.size; simp; omega) ?_); intro v6 w6 hown6 hg6)
        have hB6 : RowKit.Below w.heap.size w w6 := ((hbr.alloc hbr.size _).drew.alloc (by have := hbr.size; simp; omega) _).grown hg6 (by have := hbr.size; simp; omega) (fun q hq => (hown.lt q hq).1)
        rw [HCUT.out] at hown6
        go_wp2_with fail
        exact ⟨⟨k + 1, _, by omega, by omega, by go_num, Lib.hid (by simp [HM.out]), Lib.hid (small_snoc HSM.out (Req.cut_small HXW.out)), hown6, hB6⟩, by simp [RowKit.intOf]; omega⟩
      · obtain rfl : k = 6 := by omega
        go_wp2_with fail
        go_ret
        exact ⟨_, M, rfl, by rw [HM.out]; omega, HSM.out, reqsIn_own hown, hbr⟩
    · obtain rfl : k = L.length := by omega
      go_wp2_with fail
      go_ret
      exact ⟨_, M, rfl, by rw [HM.out]; omega, HSM.out, reqsIn_own hown, hbr⟩
end Go.Proofs.YtanmmooflhomoaaGreatDoor
