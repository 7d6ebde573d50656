/- course.Clash: whether two offers meet. -/
import Derived.Test.YtjcogpalmgcpbaaMkSt
namespace Go.Proofs.Ytjcogpalmgcpbaa
open Go Go.Proofs Go.RowKit Go.Maps Go.Sort Go.Lib
attribute [local go_sem] Off.cells

theorem encI_cells {w : World} {b o : Nat} {zs : List Int} (h : ∀ i x, zs[i]? = some x → w.rangeAt b (o + i * 1) (encI x)) : ∀ j, j < zs.length → w.cell? ⟨b, o + j, none⟩ = some (.int .i64 (zs.getD j 0)) := fun j hj => by
  have := h j _ (List.getElem?_eq_getElem hj) 0 (.int .i64 zs[j]) rfl
  rw [Nat.mul_one, Nat.add_zero] at this
  rw [this, List.getD_eq_getElem?_getD, List.getElem?_eq_getElem hj]; rfl
theorem contains_ints (v : Value) (zs : List Int) (x : Int) (w : World) (h : RowIn encI w v zs) (hl : zs.length ≤ 9223372036854775807) :
    Calls Try.prog 30 #[v, .int .i64 x] w fun e w' => e = .returned (.bool (decide (x ∈ zs))) ∧ w' = w := by
  rcases Nat.eq_zero_or_pos zs.length with h0 | h0
  · obtain ⟨p, c, rfl, _⟩ := h.form
    have e := List.eq_nil_of_length_eq_zero h0
    subst e
    exact Try.slices_Contains_int_empty p c x w
  · obtain ⟨b, o, c, rfl, _, _, hx⟩ := h.at_ (k := 1) (fun _ => rfl) h0
    refine (Try.slices_Contains_int b o zs.length c zs x w (Nat.le_refl _) hl (encI_cells hx)).mono ?_
    rintro e w' ⟨rfl, rfl⟩
    exact ⟨ret_bool (by rw [List.take_length, Bool.eq_iff_iff, List.contains_iff_mem, decide_eq_true_eq]), rfl⟩
theorem clash1_any (n : Int) (bx : Nat) (b : Off) (w : World) (hb : w.heap[bx]? = some (.cells b.cells.toArray 29 (0, 0))) (hs : RowIn encI w b.sv b.slots) (hl : b.slots.length ≤ 9223372036854775807) :
    Calls Try.prog 34 #[.int .i64 n, .pointer (some ⟨bx, 0, none⟩)] w fun e w' => e = .returned (.bool (decide (n ∈ b.slots))) ∧ w' = w := by
  have hc : w.cell? ⟨bx, 3, none⟩ = some b.sv := by rw [Lib.cell_of_heap hb]; rfl
  go_enter Try.func34, Try.ntmps34
  go_wp2_with fail
  refine (contains_ints b.sv b.slots n w hs hl).mono ?_
  rintro _ _ ⟨rfl, rfl⟩
  go_wp2_with fail
  go_ret
  exact ⟨rfl, rfl⟩
theorem indexI_any (g : FuncId) (cb : Array Value) (p : Int → Bool) (v : Value) (zs : List Int) (w : World) (h : RowIn encI w v zs) (hl : zs.length ≤ 1000000000000)
    (eg : ∀ args w, (callFunc g args).run Try.prog w = .ok (.enter g args) w) (hp : ∀ n, Calls Try.prog g (#[.int .i64 n] ++ cb) w fun e w' => e = .returned (.bool (p n)) ∧ w' = w) :
    Calls Try.prog 43 #[v, .func (.func g) #[] cb] w fun e w' => (∃ k : Int, e = .returned (.int .i64 k) ∧ decide (k ≥ 0) = zs.any p) ∧ w' = w := by
  obtain ⟨q, c, rfl, _⟩ := h.form
  have H := Lib.hid h
  clear h
  go_enter Try.func43, Try.ntmps43
  go_wp2_with fail
  go_loopw [8] (fun i wr => ∃ k : Nat, k ≤ zs.length ∧ i = .int .i64 k ∧ Hid ((zs.take k).any p = false) ∧ wr = w) (fun i _ => zs.length - (RowKit.intOf i).toNat)
  case atStart => exact ⟨0, Nat.zero_le _, rfl, Lib.hid rfl, rfl⟩
  case round =>
    obtain ⟨k, hk, rfl, HK, rfl⟩ := hrel
    by_cases hlt : k < zs.length
    · obtain ⟨b, o, c', hv, _, _, hx⟩ := H.out.at_ (k := 1) (fun _ => rfl) (by omega)
      have e1 := (Value.slice.inj hv).1
      subst e1
      have hz := List.getElem?_eq_getElem hlt
      have hcell := hx k _ hz 0 _ rfl
      rw [Nat.mul_one, Nat.add_zero] at hcell
      have hn : zs.take (k + 1) = zs.take k ++ [zs[k]] := by rw [List.take_add_one, hz]; rfl
      have HN := Lib.hid hn
      generalize zs[k] = z at hz hcell HN
      have cp := hp z
      generalize hG : p z = G at cp
      have HG := Lib.hid hG
      have HZ := Lib.hid (List.mem_of_getElem? hz)
      clear hv hx hz hn hG
      go_wp2_with fail
      refine cp.mono ?_
      rintro _ _ ⟨rfl, rfl⟩
      cases G
      · go_wp2_with fail
        go_roundw
        case rel => exact ⟨k + 1, by omega, by go_num, Lib.hid (by rw [HN.out, List.any_append, HK.out]; simp [HG.out]), trivial⟩
        case measure => simp [RowKit.intOf]; omega
      · go_wp2_with fail
        go_ret
        refine ⟨⟨k, rfl, ?_⟩, rfl⟩
        rw [decide_eq_true (by omega), eq_comm, List.any_eq_true]
        exact ⟨z, HZ.out, HG.out⟩
    · obtain rfl : k = zs.length := by omega
      have hk2 := HK.out
      rw [List.take_length] at hk2
      go_wp2_with fail
      go_ret
      exact ⟨⟨-1, rfl, by rw [hk2]; rfl⟩, rfl⟩
theorem containsI_any (g : FuncId) (cb : Array Value) (p : Int → Bool) (v : Value) (zs : List Int) (w : World) (h : RowIn encI w v zs) (hl : zs.length ≤ 1000000000000)
    (eg : ∀ args w, (callFunc g args).run Try.prog w = .ok (.enter g args) w) (hp : ∀ n, Calls Try.prog g (#[.int .i64 n] ++ cb) w fun e w' => e = .returned (.bool (p n)) ∧ w' = w) :
    Calls Try.prog 33 #[v, .func (.func g) #[] cb] w fun e w' => e = .returned (.bool (zs.any p)) ∧ w' = w := by
  go_enter Try.func33, Try.ntmps33
  go_wp2_with fail
  refine (indexI_any g cb p v zs w h hl eg hp).mono ?_
  rintro _ _ ⟨⟨k, rfl, hk⟩, rfl⟩
  go_wp2_with fail
  go_ret
  exact ⟨rfl, rfl⟩
/-- Lists that no loop outruns. -/
def Off.few (o : Off) : Prop := o.slots.length ≤ 1000000000000
theorem clash_any (a b : Off) (w : World) (ha : RowIn encI w a.sv a.slots) (hb : RowIn encI w b.sv b.slots) (la : a.few) (lb : b.few) :
    Calls Try.prog 21 #[a.val, b.val] w fun e w' => e = .returned (.bool (clashO a b)) ∧ RowKit.Below w.heap.size w w' := by
  have hb2 : RowKit.Below w.heap.size w ((w.alloc (.cells a.cells.toArray 29)).alloc (.cells b.cells.toArray 29)) := (below_alloc1 _ _).alloc (by simp) _
  have hx2 : ((w.alloc (.cells a.cells.toArray 29)).alloc (.cells b.cells.toArray 29)).heap[w.heap.size + 1]? = some (.cells b.cells.toArray 29 (0, 0)) := new_two _ _ _
  have hc2 : ((w.alloc (.cells a.cells.toArray 29)).alloc (.cells b.cells.toArray 29)).cell? ⟨w.heap.size, 3, none⟩ = some a.sv := by
    rw [Below.cell (p := ⟨w.heap.size, 3, none⟩) (below_alloc1 (w.alloc _) _) (by simp), Lib.cell_of_heap (heap_alloc_new w _)]; rfl
  go_enter Try.func21, Try.ntmps21
  simp only [Off.cells] at hb2 hx2 hc2
  go_wp2_with fail
  refine (containsI_any 34 #[.pointer (some ⟨w.heap.size + 1, 0, none⟩)] (fun n => decide (n ∈ b.slots)) a.sv a.slots _ (ha.below hb2) la (enters_of Try.func34 (by kernel_rfl) rfl) (fun n => clash1_any n _ b _ hx2 (hb.below hb2) (by unfold Off.few at lb; omega))).mono ?_
  rintro _ _ ⟨rfl, rfl⟩
  go_wp2_with fail
  go_ret
  exact ⟨rfl, hb2⟩
end Go.Proofs.Ytjcogpalmgcpbaa
