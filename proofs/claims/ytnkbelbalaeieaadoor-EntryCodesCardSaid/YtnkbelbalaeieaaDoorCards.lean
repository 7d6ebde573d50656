/-
  DERIVED. GIVEN WITH THE SEED: THE CARDS: each row of YtnkbelbalaeieaaDoorRows.lean that lists a variable, with what it lists TIED to the program's text (the seventh form; the later family's looks); each row that meets fmt, with fmt's text TOLD by the authors' own Lean function (tested against real Go, not proved from fmt's source: count such statements apart). THE CARD IS WHAT COUNTS. Prove the row's statement (the work); the ties are given (YtnkbelbalaeieaaDoorTie.lean); close each card by the builder's one call (the guide's Derived/Test/ToyasCard.lean, 'card_holds'). Laid BY PROGRAM, IN A SANDBOX (cutbox-door.mjs). By AI agents, Wed Nov 11 2026. No macro, syntax, notation, axiom, sorry.
-/
import Derived.Test.YtnkbelbalaeieaaDoorRows
import GoSem.ClaimSeven
namespace Go.Proofs.YtnkbelbalaeieaaDoor
namespace Rows

/-- THE TIED CARD OF 'quadriviumlaw10.EntryBodies'. -/
def entryBodiesCard : Claim7 := { stood := { row := entryBodiesRow, standIns := [], harness := (true, "66ec6445e8a5cdc60a22ac059c8e16ef41bced87e95c938f092c6d7170360578"), looks := true }, kinds := [], alts := [], laidByText := true, laidKinds := [.data, .data, .data], laidTests := true, laidLooks := .later }
def EntryBodiesCardSaid : Prop := Claim7.holds Tryd.pinned (.plain (OpenSpec.ofChange entryBodiesSpec)) entryBodiesCard

/-- THE TIED CARD OF 'quadriviumlaw10.EntryKeys'. -/
def entryKeysCard : Claim7 := { stood := { row := entryKeysRow, standIns := [], harness := (true, "66ec6445e8a5cdc60a22ac059c8e16ef41bced87e95c938f092c6d7170360578"), looks := true }, kinds := [], alts := [], laidByText := true, laidKinds := [.data, .data, .data], laidTests := true, laidLooks := .later }
def EntryKeysCardSaid : Prop := Claim7.holds Tryd.pinned (.plain (OpenSpec.ofChange entryKeysSpec)) entryKeysCard

/-- THE TIED CARD OF 'quadriviumlaw10.EntryChecks'. -/
def entryChecksCard : Claim7 := { stood := { row := entryChecksRow, standIns := [], harness := (true, "66ec6445e8a5cdc60a22ac059c8e16ef41bced87e95c938f092c6d7170360578"), looks := true }, kinds := [], alts := [], laidByText := true, laidKinds := [.data, .data, .data], laidTests := true, laidLooks := .later }
def EntryChecksCardSaid : Prop := Claim7.holds Tryd.pinned (.plain (OpenSpec.ofChange entryChecksSpec)) entryChecksCard

/-- THE TIED CARD OF 'quadriviumlaw10.EntrySigns'. -/
def entrySignsCard : Claim7 := { stood := { row := entrySignsRow, standIns := [], harness := (true, "66ec6445e8a5cdc60a22ac059c8e16ef41bced87e95c938f092c6d7170360578"), looks := true }, kinds := [], alts := [], laidByText := true, laidKinds := [.data, .data, .data], laidTests := true, laidLooks := .later }
def EntrySignsCardSaid : Prop := Claim7.holds Tryd.pinned (.plain (OpenSpec.ofChange entrySignsSpec)) entrySignsCard

/-- THE TIED CARD OF 'quadriviumlaw10.EntrySigned'. -/
def entrySignedCard : Claim7 := { stood := { row := entrySignedRow, standIns := [], harness := (true, "66ec6445e8a5cdc60a22ac059c8e16ef41bced87e95c938f092c6d7170360578"), looks := true }, kinds := [], alts := [], laidByText := true, laidKinds := [.data, .data, .data], laidTests := true, laidLooks := .later }
def EntrySignedCardSaid : Prop := Claim7.holds Tryd.pinned (.plain (OpenSpec.ofChange entrySignedSpec)) entrySignedCard

/-- THE TIED CARD OF 'quadriviumlaw10.EntryCodes'. -/
def entryCodesCard : Claim7 := { stood := { row := entryCodesRow, standIns := [], harness := (true, "66ec6445e8a5cdc60a22ac059c8e16ef41bced87e95c938f092c6d7170360578"), looks := true }, kinds := [], alts := [], laidByText := true, laidKinds := [.data, .data, .data, .sentinel, .sentinel], laidTests := true, laidLooks := .later }
def EntryCodesCardSaid : Prop := Claim7.holds Tryd.pinned (.plain (OpenSpec.ofChange entryCodesSpec)) entryCodesCard

/-- THE SECOND FORM's CARD OF 'quadriviumlaw10.EntryBodies'. -/
def entryBodiesUptoCard : Claim7 := { stood := { row := entryBodiesUptoRow, standIns := [], harness := (true, "66ec6445e8a5cdc60a22ac059c8e16ef41bced87e95c938f092c6d7170360578"), looks := true }, kinds := [], alts := [], laidByText := true, laidKinds := [.data, .data, .data], laidTests := true, laidLooks := .later }
def EntryBodiesUptoCardSaid : Prop := Claim7.holds Tryd.pinned (.plain (OpenSpec.upto entryBodiesSpec)) entryBodiesUptoCard

/-- THE SECOND FORM's CARD OF 'quadriviumlaw10.EntryKeys'. -/
def entryKeysUptoCard : Claim7 := { stood := { row := entryKeysUptoRow, standIns := [], harness := (true, "66ec6445e8a5cdc60a22ac059c8e16ef41bced87e95c938f092c6d7170360578"), looks := true }, kinds := [], alts := [], laidByText := true, laidKinds := [.data, .data, .data], laidTests := true, laidLooks := .later }
def EntryKeysUptoCardSaid : Prop := Claim7.holds Tryd.pinned (.plain (OpenSpec.upto entryKeysSpec)) entryKeysUptoCard

/-- THE SECOND FORM's CARD OF 'quadriviumlaw10.EntryChecks'. -/
def entryChecksUptoCard : Claim7 := { stood := { row := entryChecksUptoRow, standIns := [], harness := (true, "66ec6445e8a5cdc60a22ac059c8e16ef41bced87e95c938f092c6d7170360578"), looks := true }, kinds := [], alts := [], laidByText := true, laidKinds := [.data, .data, .data], laidTests := true, laidLooks := .later }
def EntryChecksUptoCardSaid : Prop := Claim7.holds Tryd.pinned (.plain (OpenSpec.upto entryChecksSpec)) entryChecksUptoCard

/-- THE SECOND FORM's CARD OF 'quadriviumlaw10.EntrySigns'. -/
def entrySignsUptoCard : Claim7 := { stood := { row := entrySignsUptoRow, standIns := [], harness := (true, "66ec6445e8a5cdc60a22ac059c8e16ef41bced87e95c938f092c6d7170360578"), looks := true }, kinds := [], alts := [], laidByText := true, laidKinds := [.data, .data, .data], laidTests := true, laidLooks := .later }
def EntrySignsUptoCardSaid : Prop := Claim7.holds Tryd.pinned (.plain (OpenSpec.upto entrySignsSpec)) entrySignsUptoCard

/-- THE SECOND FORM's CARD OF 'quadriviumlaw10.EntrySigned'. -/
def entrySignedUptoCard : Claim7 := { stood := { row := entrySignedUptoRow, standIns := [], harness := (true, "66ec6445e8a5cdc60a22ac059c8e16ef41bced87e95c938f092c6d7170360578"), looks := true }, kinds := [], alts := [], laidByText := true, laidKinds := [.data, .data, .data], laidTests := true, laidLooks := .later }
def EntrySignedUptoCardSaid : Prop := Claim7.holds Tryd.pinned (.plain (OpenSpec.upto entrySignedSpec)) entrySignedUptoCard

/-- THE SECOND FORM's CARD OF 'quadriviumlaw10.EntryCodes'. -/
def entryCodesUptoCard : Claim7 := { stood := { row := entryCodesUptoRow, standIns := [], harness := (true, "66ec6445e8a5cdc60a22ac059c8e16ef41bced87e95c938f092c6d7170360578"), looks := true }, kinds := [], alts := [], laidByText := true, laidKinds := [.data, .data, .data, .sentinel, .sentinel], laidTests := true, laidLooks := .later }
def EntryCodesUptoCardSaid : Prop := Claim7.holds Tryd.pinned (.plain (OpenSpec.upto entryCodesSpec)) entryCodesUptoCard
end Rows
end Go.Proofs.YtnkbelbalaeieaaDoor
