/- quadriviumlaw10.EntrySigned: what is signed, and its region that draws its order. -/
import Derived.Test.YtnkbelbalaeieaaDoorBodH
import Derived.Test.YtnkbelbalaeieaaDoorSgn3
import Derived.Test.YtnkbelbalaeieaaDoorVal
namespace Go.Proofs.YtnkbelbalaeieaaDoor
open Go Go.RowKit Go.Sort Go.Lib
attribute [local go_sem] Ent.cells

set_option maxHeartbeats 4000000 in
set_option maxRecDepth 100000 in
theorem sgd_r15 {s0 s1 s2 s3 s4 s5 s6 s7 s8 s9 s10 s12 s13 s14 s15 s16 s17 s19 s20 s21 s22 s23 s24 s25 s26 s27 s28 s29 s30 s31 s32 s33 s34 s35 s36 s37 s38 s39 s40 s41 s42 s43 s44 s45 s46 s47 s48 s49 s50 s51 s52 s53 s54 s55 s56 s57 s58 s59 s60 s61 s62 s63 s64 s65 s66 s67 s68 s69 s70 s71 s72 s73 s74 s75 s76 s77 s78 s79 s80 s81 s82 s83 s84 s85 s86 s87 s88 s89 s90 s91 s92 s93 s94 s95 s96 s97 s98 s99 s100 s101 : Value} (eb pb : Nat) (e p : Ent) (W : World) (Q : Exit → Act → World → Prop) (he : EntBox W eb e) (hp : EntBox W pb p) (hne : eb ≠ pb)
    (hQ : ∀ (u91 u92 u93 u94 u95 u96 : Value) (wx : World), EntBox wx eb e → EntBox wx pb { p with key := e.key, mark := e.mark } → RowKit.Below pb W wx → Q .normal ⟨List.toArray (s0 :: s1 :: s2 :: s3 :: s4 :: s5 :: s6 :: s7 :: s8 :: s9 :: s10 :: .pointer (some ⟨eb, 0, none⟩) :: s12 :: s13 :: s14 :: s15 :: s16 :: s17 :: .pointer (some ⟨pb, 0, none⟩) :: s19 :: s20 :: s21 :: s22 :: s23 :: s24 :: s25 :: s26 :: s27 :: s28 :: s29 :: s30 :: s31 :: s32 :: s33 :: s34 :: s35 :: s36 :: s37 :: s38 :: s39 :: s40 :: s41 :: s42 :: s43 :: s44 :: s45 :: s46 :: s47 :: s48 :: s49 :: s50 :: s51 :: s52 :: s53 :: s54 :: s55 :: s56 :: s57 :: s58 :: s59 :: s60 :: s61 :: s62 :: s63 :: s64 :: s65 :: s66 :: s67 :: s68 :: s69 :: s70 :: s71 :: s72 :: s73 :: s74 :: s75 :: s76 :: s77 :: s78 :: s79 :: s80 :: s81 :: s82 :: s83 :: s84 :: s85 :: s86 :: s87 :: s88 :: s89 :: s90 :: u91 :: u92 :: u93 :: u94 :: u95 :: u96 :: s97 :: s98 :: s99 :: s100 :: s101 :: []), []⟩ wx) :
    (regionOf Tryd.f7 15).wp Tryd.prog Q ⟨List.toArray (s0 :: s1 :: s2 :: s3 :: s4 :: s5 :: s6 :: s7 :: s8 :: s9 :: s10 :: .pointer (some ⟨eb, 0, none⟩) :: s12 :: s13 :: s14 :: s15 :: s16 :: s17 :: .pointer (some ⟨pb, 0, none⟩) :: s19 :: s20 :: s21 :: s22 :: s23 :: s24 :: s25 :: s26 :: s27 :: s28 :: s29 :: s30 :: s31 :: s32 :: s33 :: s34 :: s35 :: s36 :: s37 :: s38 :: s39 :: s40 :: s41 :: s42 :: s43 :: s44 :: s45 :: s46 :: s47 :: s48 :: s49 :: s50 :: s51 :: s52 :: s53 :: s54 :: s55 :: s56 :: s57 :: s58 :: s59 :: s60 :: s61 :: s62 :: s63 :: s64 :: s65 :: s66 :: s67 :: s68 :: s69 :: s70 :: s71 :: s72 :: s73 :: s74 :: s75 :: s76 :: s77 :: s78 :: s79 :: s80 :: s81 :: s82 :: s83 :: s84 :: s85 :: s86 :: s87 :: s88 :: s89 :: s90 :: s91 :: s92 :: s93 :: s94 :: s95 :: s96 :: s97 :: s98 :: s99 :: s100 :: s101 :: []), []⟩ W := by
  refine of_onlyN (K := Q .normal) ?_ (fun _ _ h => h)
  generalize Q .normal = K at hQ ⊢
  have HQ := Lib.hid hQ; clear hQ
  conv => arg 2; whnf
  have hf13 := hp.frozen 13
  have hf14 := hp.frozen 14
  have hc13 : W.cell? ⟨pb, 13, none⟩ = some (.int .i64 p.key) := hp.cell 13
  have hc14 : W.cell? ⟨pb, 14, none⟩ = some (.string p.mark) := hp.cell 14
  have hS0 : (∀ j, W.drew.cell? ⟨eb, j, none⟩ = e.cells[j]?) := he.cell
  have far := fun (w : World) (h : EntBox w eb e) j u => h.far2 hne j u
  have hS1 := far W he 13 (.int .i64 e.key)
  have hS3 := far _ hS1 14 (.string e.mark)
  have hP1 := EntBox.set (e' := { p with key := e.key }) hp 13 (.int .i64 e.key) rfl
  have hP3 := EntBox.set (e' := { p with key := e.key, mark := e.mark }) hP1 14 (.string e.mark) rfl
  have hB3 : RowKit.Below pb W ((W.setCell ⟨pb, 13, none⟩ (.int .i64 e.key)).setCell ⟨pb, 14, none⟩ (.string e.mark)) := (((Below.refl pb W).setCell (p := ⟨pb, 13, none⟩) (by show pb ≤ pb; omega) _).setCell (p := ⟨pb, 14, none⟩) (by show pb ≤ pb; omega) _)
  go_region_held3 (fun w' => (∀ j, w'.cell? ⟨eb, j, none⟩ = e.cells[j]?)) (first | exact hS0 | exact hS1.cell | exact hS3.cell) (fail)
  exact HQ.out _ _ _ _ _ _ _ hS3 hP3 hB3.drew
end Go.Proofs.YtnkbelbalaeieaaDoor
