/-
  DERIVED. GIVEN WITH THE SEED: THE CARDS: each row of YtnlhbdmeodbblaaGreatDoorRows.lean that lists a variable, with what it lists TIED to the program's text (the seventh form; the later family's looks); each row that meets fmt, with fmt's text TOLD by the authors' own Lean function (tested against real Go, not proved from fmt's source: count such statements apart). THE CARD IS WHAT COUNTS. Prove the row's statement (the work); the ties are given (YtnlhbdmeodbblaaGreatDoorTie.lean); close each card by the builder's one call (the guide's Derived/Test/ToyasCard.lean, 'card_holds'). Laid BY PROGRAM, IN A SANDBOX (cutbox-door.mjs). By AI agents, Wed Nov 11 2026. No macro, syntax, notation, axiom, sorry.
-/
import Derived.Test.YtnlhbdmeodbblaaGreatDoorRows
import GoSem.ClaimSeven
namespace Go.Proofs.YtnlhbdmeodbblaaGreatDoor
namespace Rows

/-- THE TIED CARD OF 'quadriviumlaw23.OfflineSame'. -/
def offlineSameCard : Claim7 := { stood := { row := offlineSameRow, standIns := [], harness := (true, "4eb9ba4794dd6b2d5556b1fccf9c7ed7992d1ac9ad74f3db54a93b68701e60e1"), looks := true }, kinds := [], alts := [], laidByText := true, laidKinds := [.data, .data, .data, .sentinel, .sentinel], laidTests := true, laidLooks := .later }
def OfflineSameCardSaid : Prop := Claim7.holds Tryz.pinned (.plain (OpenSpec.ofChange offlineSameSpec)) offlineSameCard

/-- THE TIED CARD OF 'quadriviumlaw23.OfflineTrue'. -/
def offlineTrueCard : Claim7 := { stood := { row := offlineTrueRow, standIns := [], harness := (true, "4eb9ba4794dd6b2d5556b1fccf9c7ed7992d1ac9ad74f3db54a93b68701e60e1"), looks := true }, kinds := [], alts := [], laidByText := true, laidKinds := [.data, .data, .data, .sentinel, .sentinel], laidTests := true, laidLooks := .later }
def OfflineTrueCardSaid : Prop := Claim7.holds Tryz.pinned (.plain (OpenSpec.ofChange offlineTrueSpec)) offlineTrueCard

/-- THE TIED CARD OF 'quadriviumlaw23.OfflineThefts'. -/
def offlineTheftsCard : Claim7 := { stood := { row := offlineTheftsRow, standIns := [], harness := (true, "4eb9ba4794dd6b2d5556b1fccf9c7ed7992d1ac9ad74f3db54a93b68701e60e1"), looks := true }, kinds := [], alts := [], laidByText := true, laidKinds := [.data, .data, .data, .sentinel, .sentinel], laidTests := true, laidLooks := .later }
def OfflineTheftsCardSaid : Prop := Claim7.holds Tryz.pinned (.plain (OpenSpec.ofChange offlineTheftsSpec)) offlineTheftsCard

/-- THE TIED CARD OF 'quadriviumlaw23.OfflineNewer'. -/
def offlineNewerCard : Claim7 := { stood := { row := offlineNewerRow, standIns := [], harness := (true, "4eb9ba4794dd6b2d5556b1fccf9c7ed7992d1ac9ad74f3db54a93b68701e60e1"), looks := true }, kinds := [], alts := [], laidByText := true, laidKinds := [.data, .data, .data, .sentinel, .sentinel], laidTests := true, laidLooks := .later }
def OfflineNewerCardSaid : Prop := Claim7.holds Tryz.pinned (.plain (OpenSpec.ofChange offlineNewerSpec)) offlineNewerCard

/-- THE SECOND FORM's CARD OF 'quadriviumlaw23.OfflineSame'. -/
def offlineSameUptoCard : Claim7 := { stood := { row := offlineSameUptoRow, standIns := [], harness := (true, "4eb9ba4794dd6b2d5556b1fccf9c7ed7992d1ac9ad74f3db54a93b68701e60e1"), looks := true }, kinds := [], alts := [], laidByText := true, laidKinds := [.data, .data, .data, .sentinel, .sentinel], laidTests := true, laidLooks := .later }
def OfflineSameUptoCardSaid : Prop := Claim7.holds Tryz.pinned (.plain (OpenSpec.upto offlineSameSpec)) offlineSameUptoCard

/-- THE SECOND FORM's CARD OF 'quadriviumlaw23.OfflineTrue'. -/
def offlineTrueUptoCard : Claim7 := { stood := { row := offlineTrueUptoRow, standIns := [], harness := (true, "4eb9ba4794dd6b2d5556b1fccf9c7ed7992d1ac9ad74f3db54a93b68701e60e1"), looks := true }, kinds := [], alts := [], laidByText := true, laidKinds := [.data, .data, .data, .sentinel, .sentinel], laidTests := true, laidLooks := .later }
def OfflineTrueUptoCardSaid : Prop := Claim7.holds Tryz.pinned (.plain (OpenSpec.upto offlineTrueSpec)) offlineTrueUptoCard

/-- THE SECOND FORM's CARD OF 'quadriviumlaw23.OfflineThefts'. -/
def offlineTheftsUptoCard : Claim7 := { stood := { row := offlineTheftsUptoRow, standIns := [], harness := (true, "4eb9ba4794dd6b2d5556b1fccf9c7ed7992d1ac9ad74f3db54a93b68701e60e1"), looks := true }, kinds := [], alts := [], laidByText := true, laidKinds := [.data, .data, .data, .sentinel, .sentinel], laidTests := true, laidLooks := .later }
def OfflineTheftsUptoCardSaid : Prop := Claim7.holds Tryz.pinned (.plain (OpenSpec.upto offlineTheftsSpec)) offlineTheftsUptoCard

/-- THE SECOND FORM's CARD OF 'quadriviumlaw23.OfflineNewer'. -/
def offlineNewerUptoCard : Claim7 := { stood := { row := offlineNewerUptoRow, standIns := [], harness := (true, "4eb9ba4794dd6b2d5556b1fccf9c7ed7992d1ac9ad74f3db54a93b68701e60e1"), looks := true }, kinds := [], alts := [], laidByText := true, laidKinds := [.data, .data, .data, .sentinel, .sentinel], laidTests := true, laidLooks := .later }
def OfflineNewerUptoCardSaid : Prop := Claim7.holds Tryz.pinned (.plain (OpenSpec.upto offlineNewerSpec)) offlineNewerUptoCard
end Rows
end Go.Proofs.YtnlhbdmeodbblaaGreatDoor
