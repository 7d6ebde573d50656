/- Plain law: bodies and codes of entries are equal as the entries are. No program in sight. -/
import Derived.Test.YtnkbelbalaeieaaDoorLaw
import Derived.Test.YtnkbelbalaeieaaDoorEql
namespace Go.Proofs.YtnkbelbalaeieaaDoor
open Go Go.Lib

/-- An entry without its mark. -/
def Ent.bare (e : Ent) : Ent := { e with mark := ⟨#[]⟩ }
theorem bare_iff (a b : Ent) : a.bare = b.bare ↔ { a with mark := b.mark } = b := by
  cases a; cases b; simp [Ent.bare]
theorem body_eq (e e' : Ent) : ((⟨e'.body.toArray⟩ : ByteArray).toList == (⟨e.body.toArray⟩ : ByteArray).toList) = eqE e.bare e'.bare := by
  rw [Bool.eq_iff_iff, eqE_iff, beq_iff_eq, ba_toList]
  rw [show ((⟨e'.body.toArray⟩ : ByteArray) = ⟨e.body.toArray⟩) ↔ e.body = e'.body from ⟨fun h => by simpa using (congrArg (fun b => b.data.toList) h).symm, fun h => by rw [h]⟩]
  rw [body_inj, bare_iff]
theorem code_eq (e e' : Ent) : ((⟨e'.code.toArray⟩ : ByteArray).toList == (⟨e.code.toArray⟩ : ByteArray).toList) = eqE e e' := by
  rw [Bool.eq_iff_iff, eqE_iff, beq_iff_eq, ba_toList]
  rw [show ((⟨e'.code.toArray⟩ : ByteArray) = ⟨e.code.toArray⟩) ↔ e.code = e'.code from ⟨fun h => by simpa using (congrArg (fun b => b.data.toList) h).symm, fun h => by rw [h]⟩]
  rw [code_inj]
/-- Encode begins with Body. -/
theorem code_head (e : Ent) : (⟨e.body.toArray⟩ : ByteArray).size ≤ (⟨e.code.toArray⟩ : ByteArray).size ∧ (⟨e.code.toArray⟩ : ByteArray).extract 0 (⟨e.body.toArray⟩ : ByteArray).size = ⟨e.body.toArray⟩ := by
  have h1 : (⟨e.body.toArray⟩ : ByteArray).size = e.body.length := by rw [ba_size]
  have h2 : (⟨e.code.toArray⟩ : ByteArray).size = e.body.length + (wText e.mark).length := by rw [ba_size]; simp [Ent.code]
  refine ⟨by omega, ba_ext ?_⟩
  rw [ByteArray.data_extract, h1]
  simp [Ent.code]
theorem cut_ok (e : Ent) (h : I64 e.id ∧ I64 e.school ∧ I64 e.student ∧ I64 e.kind ∧ I64 e.day ∧ I64 e.on ∧ I64 e.credits ∧ I64 e.grade ∧ I64 e.ref ∧ I64 e.fro ∧ I64 e.programme ∧ I64 e.version ∧ I64 e.key) (c m : ByteArray) (hc : c.size ≤ 100000) (hm : m.size ≤ 100000) : Ent.Ok { e with course := c, mark := m } := by
  obtain ⟨h1, h2, h3, h4, h5, h6, h7, h8, h9, h10, h11, h12, h13⟩ := h
  exact ⟨h1, h2, h3, h4, h5, h6, h7, h8, h9, h10, h11, h12, h13, hc, hm⟩
end Go.Proofs.YtnkbelbalaeieaaDoor
