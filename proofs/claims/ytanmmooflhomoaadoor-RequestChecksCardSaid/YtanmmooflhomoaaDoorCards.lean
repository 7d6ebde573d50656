/-
  DERIVED. GIVEN WITH THE SEED: THE CARDS: each row of YtanmmooflhomoaaDoorRows.lean that lists a variable, with what it lists TIED to the program's text (the seventh form; the later family's looks); each row that meets fmt, with fmt's text TOLD by the authors' own Lean function (tested against real Go, not proved from fmt's source: count such statements apart). THE CARD IS WHAT COUNTS. Prove the row's statement (the work); the ties are given (YtanmmooflhomoaaDoorTie.lean); close each card by the builder's one call (the guide's Derived/Test/ToyasCard.lean, 'card_holds'). Laid BY PROGRAM, IN A SANDBOX (cutbox-door.mjs). By AI agents, Wed Nov 11 2026. No macro, syntax, notation, axiom, sorry.
-/
import Derived.Test.YtanmmooflhomoaaDoorRows
import GoSem.ClaimSeven
namespace Go.Proofs.YtanmmooflhomoaaDoor
namespace Rows

/-- THE TIED CARD OF 'quadriviumlaw27.RequestActive'. -/
def requestActiveCard : Claim7 := { stood := { row := requestActiveRow, standIns := [], harness := (true, "bf282145b81a45d6ad85e8bf800a023f2bee4693a61c34aa791d518e2f495fd1"), looks := false }, kinds := [], alts := [], laidByText := true, laidKinds := [.data, .data, .data], laidTests := true, laidLooks := .later }
def RequestActiveCardSaid : Prop := Claim7.holds Tryd.pinned (.plain (OpenSpec.ofChange requestActiveSpec)) requestActiveCard

/-- THE TIED CARD OF 'quadriviumlaw27.RequestMissing'. -/
def requestMissingCard : Claim7 := { stood := { row := requestMissingRow, standIns := [], harness := (true, "bf282145b81a45d6ad85e8bf800a023f2bee4693a61c34aa791d518e2f495fd1"), looks := false }, kinds := [], alts := [], laidByText := true, laidKinds := [.data, .data, .data], laidTests := true, laidLooks := .later }
def RequestMissingCardSaid : Prop := Claim7.holds Tryd.pinned (.plain (OpenSpec.ofChange requestMissingSpec)) requestMissingCard

/-- THE TIED CARD OF 'quadriviumlaw27.RequestChecks'. -/
def requestChecksCard : Claim7 := { stood := { row := requestChecksRow, standIns := [], harness := (true, "bf282145b81a45d6ad85e8bf800a023f2bee4693a61c34aa791d518e2f495fd1"), looks := false }, kinds := [], alts := [], laidByText := true, laidKinds := [.data, .data, .data], laidTests := true, laidLooks := .later }
def RequestChecksCardSaid : Prop := Claim7.holds Tryd.pinned (.plain (OpenSpec.ofChange requestChecksSpec)) requestChecksCard

/-- THE TIED CARD OF 'quadriviumlaw27.RequestSets'. -/
def requestSetsCard : Claim7 := { stood := { row := requestSetsRow, standIns := [], harness := (true, "bf282145b81a45d6ad85e8bf800a023f2bee4693a61c34aa791d518e2f495fd1"), looks := false }, kinds := [], alts := [], laidByText := true, laidKinds := [.data, .data, .data], laidTests := true, laidLooks := .later }
def RequestSetsCardSaid : Prop := Claim7.holds Tryd.pinned (.plain (OpenSpec.ofChange requestSetsSpec)) requestSetsCard

/-- THE SECOND FORM's CARD OF 'quadriviumlaw27.RequestActive'. -/
def requestActiveUptoCard : Claim7 := { stood := { row := requestActiveUptoRow, standIns := [], harness := (true, "bf282145b81a45d6ad85e8bf800a023f2bee4693a61c34aa791d518e2f495fd1"), looks := false }, kinds := [], alts := [], laidByText := true, laidKinds := [.data, .data, .data], laidTests := true, laidLooks := .later }
def RequestActiveUptoCardSaid : Prop := Claim7.holds Tryd.pinned (.plain (OpenSpec.upto requestActiveSpec)) requestActiveUptoCard

/-- THE SECOND FORM's CARD OF 'quadriviumlaw27.RequestMissing'. -/
def requestMissingUptoCard : Claim7 := { stood := { row := requestMissingUptoRow, standIns := [], harness := (true, "bf282145b81a45d6ad85e8bf800a023f2bee4693a61c34aa791d518e2f495fd1"), looks := false }, kinds := [], alts := [], laidByText := true, laidKinds := [.data, .data, .data], laidTests := true, laidLooks := .later }
def RequestMissingUptoCardSaid : Prop := Claim7.holds Tryd.pinned (.plain (OpenSpec.upto requestMissingSpec)) requestMissingUptoCard

/-- THE SECOND FORM's CARD OF 'quadriviumlaw27.RequestChecks'. -/
def requestChecksUptoCard : Claim7 := { stood := { row := requestChecksUptoRow, standIns := [], harness := (true, "bf282145b81a45d6ad85e8bf800a023f2bee4693a61c34aa791d518e2f495fd1"), looks := false }, kinds := [], alts := [], laidByText := true, laidKinds := [.data, .data, .data], laidTests := true, laidLooks := .later }
def RequestChecksUptoCardSaid : Prop := Claim7.holds Tryd.pinned (.plain (OpenSpec.upto requestChecksSpec)) requestChecksUptoCard

/-- THE SECOND FORM's CARD OF 'quadriviumlaw27.RequestSets'. -/
def requestSetsUptoCard : Claim7 := { stood := { row := requestSetsUptoRow, standIns := [], harness := (true, "bf282145b81a45d6ad85e8bf800a023f2bee4693a61c34aa791d518e2f495fd1"), looks := false }, kinds := [], alts := [], laidByText := true, laidKinds := [.data, .data, .data], laidTests := true, laidLooks := .later }
def RequestSetsUptoCardSaid : Prop := Claim7.holds Tryd.pinned (.plain (OpenSpec.upto requestSetsSpec)) requestSetsUptoCard
end Rows
end Go.Proofs.YtanmmooflhomoaaDoor
