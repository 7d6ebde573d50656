/-
  DERIVED. GIVEN WITH THE SEED: THE CARDS: each row of YtanmmooflhomoaaGreatDoorRows.lean that lists a variable, with what it lists TIED to the program's text (the seventh form; the later family's looks); each row that meets fmt, with fmt's text TOLD by the authors' own Lean function (tested against real Go, not proved from fmt's source: count such statements apart). THE CARD IS WHAT COUNTS. Prove the row's statement (the work); the ties are given (YtanmmooflhomoaaGreatDoorTie.lean); close each card by the builder's one call (the guide's Derived/Test/ToyasCard.lean, 'card_holds'). Laid BY PROGRAM, IN A SANDBOX (cutbox-door.mjs). By AI agents, Wed Nov 11 2026. No macro, syntax, notation, axiom, sorry.
-/
import Derived.Test.YtanmmooflhomoaaGreatDoorRows
import GoSem.ClaimSeven
namespace Go.Proofs.YtanmmooflhomoaaGreatDoor
namespace Rows

/-- THE TIED CARD OF 'quadriviumlaw27.RequestJoins'. -/
def requestJoinsCard : Claim7 := { stood := { row := requestJoinsRow, standIns := [], harness := (true, "f2fb73ee76b39a4d22143593cb8d2e6d56af0a0b6c435d4163fa647ec6c23faa"), looks := true }, kinds := [], alts := [], laidByText := true, laidKinds := [.data, .data, .data], laidTests := true, laidLooks := .later }
def RequestJoinsCardSaid : Prop := Claim7.holds Tryz.pinned (.plain (OpenSpec.ofChange requestJoinsSpec)) requestJoinsCard

/-- THE TIED CARD OF 'quadriviumlaw27.RequestCodes'. -/
def requestCodesCard : Claim7 := { stood := { row := requestCodesRow, standIns := [], harness := (true, "f2fb73ee76b39a4d22143593cb8d2e6d56af0a0b6c435d4163fa647ec6c23faa"), looks := true }, kinds := [], alts := [], laidByText := true, laidKinds := [.data, .data, .data, .sentinel, .sentinel], laidTests := true, laidLooks := .later }
def RequestCodesCardSaid : Prop := Claim7.holds Tryz.pinned (.plain (OpenSpec.ofChange requestCodesSpec)) requestCodesCard

/-- THE SECOND FORM's CARD OF 'quadriviumlaw27.RequestJoins'. -/
def requestJoinsUptoCard : Claim7 := { stood := { row := requestJoinsUptoRow, standIns := [], harness := (true, "f2fb73ee76b39a4d22143593cb8d2e6d56af0a0b6c435d4163fa647ec6c23faa"), looks := true }, kinds := [], alts := [], laidByText := true, laidKinds := [.data, .data, .data], laidTests := true, laidLooks := .later }
def RequestJoinsUptoCardSaid : Prop := Claim7.holds Tryz.pinned (.plain (OpenSpec.upto requestJoinsSpec)) requestJoinsUptoCard

/-- THE SECOND FORM's CARD OF 'quadriviumlaw27.RequestCodes'. -/
def requestCodesUptoCard : Claim7 := { stood := { row := requestCodesUptoRow, standIns := [], harness := (true, "f2fb73ee76b39a4d22143593cb8d2e6d56af0a0b6c435d4163fa647ec6c23faa"), looks := true }, kinds := [], alts := [], laidByText := true, laidKinds := [.data, .data, .data, .sentinel, .sentinel], laidTests := true, laidLooks := .later }
def RequestCodesUptoCardSaid : Prop := Claim7.holds Tryz.pinned (.plain (OpenSpec.upto requestCodesSpec)) requestCodesUptoCard
end Rows
end Go.Proofs.YtanmmooflhomoaaGreatDoor
