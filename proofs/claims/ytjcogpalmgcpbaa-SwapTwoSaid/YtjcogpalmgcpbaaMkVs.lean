/- slices.Values over requests: the iterator gives the list. -/
import Derived.Test.YtjcogpalmgcpbaaMkCm
namespace Go.Proofs.Ytjcogpalmgcpbaa
open Go Go.Proofs Go.RowKit Go.Maps Go.Sort Go.Lib
attribute [local go_sem] Req.cells








































































theorem ins_list (ks : List Req) : ∃ ts : List Req, Go.Sort.insertionSort (ltOf cmpB) ks.toArray 0 ks.length = ts.toArray ∧ ts.Perm ks ∧ ts.Pairwise fun a b => ltOf cmpB b a = false := by
  obtain ⟨⟨h1, _, h3⟩, h4⟩ := insertionSort_holds (lt := ltOf cmpB) swoB ks.toArray 0 ks.length (Nat.zero_le _) (by simp)
  generalize Go.Sort.insertionSort (ltOf cmpB) ks.toArray 0 ks.length = d at h1 h3 h4
  obtain ⟨ts⟩ := d
  have hl : ts.length = ks.length := by simpa using h1
  refine ⟨ts, rfl, ?_, ?_⟩
  · have e1 : (List.toArray ts).extract 0 ks.length = List.toArray ts := by rw [← hl]; simp
    have e2 : ks.toArray.extract 0 ks.length = ks.toArray := by simp
    rw [e1, e2] at h3
    exact h3
  · rw [List.pairwise_iff_getElem]
    intro i j hi hj hij
    have := h4 i j (Nat.zero_le _) hij (by omega)
    rw [getElem!_pos _ _ (by simpa using hj), getElem!_pos _ _ (by simpa using hi)] at this
    simpa using this






































theorem wide_fn (f : FuncId) : Fence.wide.fn f := by trivial
theorem collect_any (g : Nat) (lb : Array Value) (eg : ∀ args w, (callFunc g args).run Try.prog w = .ok (.enter g args) w) (S : List Req → Prop) (N : Nat) (hN : N ≤ 1000000) (w : World) (hseq : SeqGivesB Fence.wide 1 Try.prog g lb Req.val S N w) :
    Calls Try.prog 55 #[.func (.func g) #[] lb] w fun e w' => ∃ (v : Value) (ks : List Req), e = .returned v ∧ S ks ∧ w'.ownsRow w.heap.size 37 9 v ks.length (reqCells ks) ∧ (v = .slice none 0 0 ↔ ks = []) ∧ RowKit.Below w.heap.size w w' :=
  callsIn_wide.1 (collect_in Fence.wide 3 (wide_fn _) (wide_fn _) rfl (by omega) g lb (wide_fn _) eg S N (by unfold maxLen; omega) (by omega) w hseq)





























end Go.Proofs.Ytjcogpalmgcpbaa
