/- Arguments of the laws of requests, opened: a byte; a slice of requests. -/
import Derived.Test.YtanmmooflhomoaaGreatDoorRqPost
import Derived.ChangeMaps
namespace Go.Proofs.YtanmmooflhomoaaGreatDoor
open Go Go.Deep Go.ChangeShapes Go.WideShapes Go.ChangeAt Go.WideElems Go.RowKit Go.Lib

theorem wf_u8 {n : Int} (h : Lit.wf (.int .u8 n)) : 0 ≤ n ∧ n ≤ 255 := by
  simp [Lit.wf, IntKind.min, IntKind.max, IntKind.signed, IntKind.bits] at h
  omega
theorem reqs_rows (w : World) (b : Nat) : ∀ (L : List Req) (o : Nat), (∀ k r, L[k]? = some r → ReqAt w b (o + k * 9) r) → ∀ (j : Nat) (u : Value), (reqCells L)[j]? = some u → w.cell? ⟨b, o + j, none⟩ = some u
  | [], _, _, j, u, h => by simp [reqCells] at h
  | r :: L, o, hr, j, u, h => by
    rw [show reqCells (r :: L) = r.cells.toList ++ reqCells L from rfl] at h
    have hl : r.cells.toList.length = 9 := rfl
    by_cases hj : j < 9
    · rw [List.getElem?_append_left (by omega)] at h
      have := hr 0 r rfl j u h
      rwa [Nat.zero_mul, Nat.add_zero] at this
    · rw [List.getElem?_append_right (by omega), hl] at h
      have := reqs_rows w b L (o + 9) (fun k r' hk => by have := hr (k + 1) r' hk; rwa [show o + 9 + k * 9 = o + (k + 1) * 9 by omega]) (j - 9) u h
      rwa [show o + 9 + (j - 9) = o + j by omega] at this
theorem list9 {α : Type} {l : List α} (h : l.length = 9) : ∃ a b c d e f g i j, l = [a, b, c, d, e, f, g, i, j] := by
  match l, h with
  | [a, b, c, d, e, f, g, i, j], _ => exact ⟨a, b, c, d, e, f, g, i, j, rfl⟩
section
variable {H : Type} {enc : TypeId × Value → H} {w : World} {held : Bool} {fuel : Nat}
theorem req_info' : ∃ fs, Tryz.prog.underlying 46 = some (.struct fs) ∧ fs.map (·.type) = #[3, 3, 4, 3, 3, 9, 9, 3, 3] ∧ oneCellFields Tryz.prog fs = true :=
  ⟨_, Tryz.underlying46, by kernel_rfl, by kernel_rfl⟩
theorem req_open {cs : List Value} {y : DataW H × List MemPlace} (h : DataW.trod enc Tryz.prog w 0 (fun _ => true) held fuel 46 cs = some y) : ∃ r : Req, cs = r.cells.toList ∧ r.wf := by
  obtain ⟨fs, hu, ht, ho⟩ := req_info'
  obtain ⟨xs, n, _, rfl, hl, hlen, hf⟩ := DataW.trod_struct hu h
  have hcc : Tryz.prog.cellsOf 46 = 9 := by kernel_rfl
  rw [hcc] at hl
  have hsz : fs.size = 9 := by have := congrArg Array.size ht; simpa using this
  obtain ⟨c0, c1, c2, c3, c4, c5, c6, c7, c8, rfl⟩ := list9 hl
  have get : ∀ i (hi : i < 9), ∃ z, DataW.trod enc Tryz.prog w 0 (fun _ => true) held n ((#[3, 3, 4, 3, 3, 9, 9, 3, 3] : Array TypeId)[i]) (([c0, c1, c2, c3, c4, c5, c6, c7, c8].drop i).take 1) = some z := fun i hi => by
    have hfi : fs[i]? = some fs[i] := Array.getElem?_eq_getElem (by omega)
    have h1 := hf i _ hfi
    obtain ⟨h2, h3⟩ := hone_of ho i _ hfi
    have h4 : fs[i].type = (#[3, 3, 4, 3, 3, 9, 9, 3, 3] : Array TypeId)[i] := by
      have := congrArg (fun a => a[i]?) ht
      simp only [Array.getElem?_map, hfi] at this
      rw [Array.getElem?_eq_getElem (by simpa using hi)] at this
      simpa using this
    rw [h2, h3, h4, List.getElem?_eq_getElem (by omega)] at h1
    exact ⟨_, h1⟩
  obtain ⟨_, g0⟩ := get 0 (by omega)
  obtain ⟨_, g1⟩ := get 1 (by omega)
  obtain ⟨_, g2⟩ := get 2 (by omega)
  obtain ⟨_, g3⟩ := get 3 (by omega)
  obtain ⟨_, g4⟩ := get 4 (by omega)
  obtain ⟨_, g5⟩ := get 5 (by omega)
  obtain ⟨_, g6⟩ := get 6 (by omega)
  obtain ⟨_, g7⟩ := get 7 (by omega)
  obtain ⟨_, g8⟩ := get 8 (by omega)
  obtain ⟨n0, e0, -, w0⟩ := DataW.trod_int Tryz.underlying3 g0
  obtain ⟨n1, e1, -, w1⟩ := DataW.trod_int Tryz.underlying3 g1
  obtain ⟨n2, e2, -⟩ := DataW.trod_bool Tryz.underlying4 g2
  obtain ⟨n3, e3, -, w3⟩ := DataW.trod_int Tryz.underlying3 g3
  obtain ⟨n4, e4, -, w4⟩ := DataW.trod_int Tryz.underlying3 g4
  obtain ⟨n5, e5, -, w5⟩ := DataW.trod_string Tryz.underlying9 g5
  obtain ⟨n6, e6, -, w6⟩ := DataW.trod_string Tryz.underlying9 g6
  obtain ⟨n7, e7, -, w7⟩ := DataW.trod_int Tryz.underlying3 g7
  obtain ⟨n8, e8, -, w8⟩ := DataW.trod_int Tryz.underlying3 g8
  simp at e0 e1 e2 e3 e4 e5 e6 e7 e8
  subst e0 e1 e2 e3 e4 e5 e6 e7 e8
  exact ⟨⟨n0, n1, n2, n3, n4, n5, n6, n7, n8⟩, rfl, w0, w1, w3, w4, w5, w6, w7, w8⟩
theorem rows_req {a : Addr} : ∀ (n : Nat), (∀ i, i < n → ∃ r : Req, w.cells? 0 (a.add (i * 9)) 9 = some r.cells.toList ∧ r.wf) → ∃ L : List Req, L.length = n ∧ (∀ r ∈ L, r.wf) ∧ ∀ k r, L[k]? = some r → w.cells? 0 (a.add (k * 9)) 9 = some r.cells.toList
  | 0, _ => ⟨[], rfl, by simp, fun k r h => by simp at h⟩
  | n + 1, h => by
    obtain ⟨L, hl, hw, hr⟩ := rows_req n (fun i hi => h i (by omega))
    obtain ⟨x, hc, hx⟩ := h n (by omega)
    refine ⟨L ++ [x], by simp [hl], fun r hr => ?_, fun k r hk => ?_⟩
    · rcases List.mem_append.1 hr with h1 | h1
      · exact hw r h1
      · obtain rfl := List.mem_singleton.1 h1; exact hx
    · by_cases hkn : k < L.length
      · rw [List.getElem?_append_left hkn] at hk; exact hr k r hk
      · have hk2 := (List.getElem?_eq_some_iff.1 hk).1
        obtain rfl : k = n := by simp at hk2; omega
        rw [List.getElem?_append_right (by omega)] at hk
        simp [hl] at hk
        subst hk; exact hc
/-- A slice of requests that came in. -/
def RawIn (w : World) (v : Value) (L : List Req) : Prop := (∃ base c, v = .slice base L.length c) ∧ (0 < L.length → ReqsIn w v L)
theorem open_reqs {v : Value} {d : DataW H} {p : List MemPlace} (h : DataW.Trod enc Tryz.prog w 0 (fun _ => true) held 26 v d p) (hv : ∃ A n c, v = .slice A n c) : ∃ L, RawIn w v L ∧ ∀ r ∈ L, r.wf := by
  obtain ⟨A, n, c, rfl⟩ := hv
  obtain ⟨fuel, hf⟩ := h
  have hcc : Tryz.prog.cellsOf 46 = 9 := by kernel_rfl
  rcases DataW.trod_slice Tryz.underlying26 (by simpa [Value.cells] using hf) with ⟨hc, hx⟩ | ⟨a, len, cap, elems, rest, m, _, hc, -, hb, hl, hm, hlen, hel, -, -⟩
  · simp at hc
    exact ⟨[], ⟨⟨none, 0, by simp [hc]⟩, fun h => absurd h (by simp)⟩, by simp⟩
  · simp at hc
    obtain ⟨rfl, rfl, rfl⟩ := hc
    rw [hcc] at hel
    obtain ⟨L, hln, hw, hr⟩ := rows_req (w := w) (a := a) n (fun i hi => by
      have h1 := hel i hi
      rw [List.getElem?_eq_getElem (by omega), Option.bind_eq_some_iff] at h1
      obtain ⟨cs, h2, h3⟩ := h1
      obtain ⟨r, rfl, hr⟩ := req_open h3
      exact ⟨r, h2, hr⟩)
    refine ⟨L, ⟨⟨some a, c, by rw [hln]⟩, fun h0 => ?_⟩, hw⟩
    have hx := List.getElem?_eq_getElem h0
    have h1 := hr 0 _ hx
    rw [Nat.zero_mul, add_zero] at h1
    have hd0 := (World.cells?_some h1).2.2 0 (by omega)
    rw [add_zero] at hd0
    obtain ⟨b, o, rfl⟩ := no_path (v := .int .i64 L[0].server) (by simpa [Req.cells] using hd0)
    refine .inr ⟨b, o, c, by rw [hln], by omega, ?_, reqs_rows w b L o fun k r hk j u hj => ?_⟩
    · exact World.block_lt_of_cell? w _ (u := .int .i64 L[0].server) (by simpa [Req.cells] using hd0)
    · have h2 := hr k r hk
      rw [add_at] at h2
      have hj9 : j < 9 := by have := (List.getElem?_eq_some_iff.1 hj).1; simpa [Req.cells] using this
      have h3 := (World.cells?_some h2).2.2 j hj9
      rw [add_at, hj] at h3
      exact h3
end
end Go.Proofs.YtanmmooflhomoaaGreatDoor
