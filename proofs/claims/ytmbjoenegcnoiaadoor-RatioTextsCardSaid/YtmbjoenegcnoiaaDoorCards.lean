/-
  DERIVED. GIVEN WITH THE SEED: THE CARDS: each row of YtmbjoenegcnoiaaDoorRows.lean that lists a variable, with what it lists TIED to the program's text (the seventh form; the later family's looks); each row that meets fmt, with fmt's text TOLD by the authors' own Lean function (tested against real Go, not proved from fmt's source: count such statements apart). THE CARD IS WHAT COUNTS. Prove the row's statement (the work); the ties are given (YtmbjoenegcnoiaaDoorTie.lean); close each card by the builder's one call (the guide's Derived/Test/ToyasCard.lean, 'card_holds'). Laid BY PROGRAM, IN A SANDBOX (cutbox-door.mjs). By AI agents, Wed Nov 11 2026. No macro, syntax, notation, axiom, sorry.
-/
import Derived.Test.YtmbjoenegcnoiaaDoorRows
import GoSem.ClaimSeven
namespace Go.Proofs.YtmbjoenegcnoiaaDoor
namespace Rows

/-- THE TIED CARD OF 'quadriviumlaw04.RatioRounds'. -/
def ratioRoundsCard : Claim7 := { stood := { row := ratioRoundsRow, standIns := [], harness := (true, "fe652cbb4de69f45a931bd86bc66aeb111ed610a91918a8a39af2e5c60cc1a86"), looks := true }, kinds := [], alts := [], laidByText := true, laidKinds := [.data, .data, .data, .sentinel, .sentinel], laidTests := true, laidLooks := .later }
def RatioRoundsCardSaid : Prop := Claim7.holds Tryd.pinned (.plain (OpenSpec.ofChange ratioRoundsSpec)) ratioRoundsCard

/-- THE TIED CARD OF 'quadriviumlaw04.RatioTexts'. -/
def ratioTextsCard : Claim7 := { stood := { row := ratioTextsRow, standIns := [], harness := (true, "fe652cbb4de69f45a931bd86bc66aeb111ed610a91918a8a39af2e5c60cc1a86"), looks := true }, kinds := [], alts := [], laidByText := true, laidKinds := [.data, .data, .data, .sentinel, .sentinel], laidTests := true, laidLooks := .later }
def RatioTextsCardSaid : Prop := Claim7.holds Tryd.pinned (.plain (OpenSpec.ofChange ratioTextsSpec)) ratioTextsCard

/-- THE TIED CARD OF 'quadriviumlaw04.RatioLowest'. -/
def ratioLowestCard : Claim7 := { stood := { row := ratioLowestRow, standIns := [], harness := (true, "fe652cbb4de69f45a931bd86bc66aeb111ed610a91918a8a39af2e5c60cc1a86"), looks := true }, kinds := [], alts := [], laidByText := true, laidKinds := [.data, .data, .data, .sentinel, .sentinel], laidTests := true, laidLooks := .later }
def RatioLowestCardSaid : Prop := Claim7.holds Tryd.pinned (.plain (OpenSpec.ofChange ratioLowestSpec)) ratioLowestCard

/-- THE TIED CARD OF 'quadriviumlaw04.RatioSums'. -/
def ratioSumsCard : Claim7 := { stood := { row := ratioSumsRow, standIns := [], harness := (true, "fe652cbb4de69f45a931bd86bc66aeb111ed610a91918a8a39af2e5c60cc1a86"), looks := true }, kinds := [], alts := [], laidByText := true, laidKinds := [.data, .data, .data, .sentinel, .sentinel], laidTests := true, laidLooks := .later }
def RatioSumsCardSaid : Prop := Claim7.holds Tryd.pinned (.plain (OpenSpec.ofChange ratioSumsSpec)) ratioSumsCard

/-- THE TIED CARD OF 'quadriviumlaw04.RatioOrder'. -/
def ratioOrderCard : Claim7 := { stood := { row := ratioOrderRow, standIns := [], harness := (true, "fe652cbb4de69f45a931bd86bc66aeb111ed610a91918a8a39af2e5c60cc1a86"), looks := true }, kinds := [], alts := [], laidByText := true, laidKinds := [.data, .data, .data, .sentinel, .sentinel], laidTests := true, laidLooks := .later }
def RatioOrderCardSaid : Prop := Claim7.holds Tryd.pinned (.plain (OpenSpec.ofChange ratioOrderSpec)) ratioOrderCard

/-- THE TIED CARD OF 'quadriviumlaw04.RatioNext'. -/
def ratioNextCard : Claim7 := { stood := { row := ratioNextRow, standIns := [], harness := (true, "fe652cbb4de69f45a931bd86bc66aeb111ed610a91918a8a39af2e5c60cc1a86"), looks := true }, kinds := [], alts := [], laidByText := true, laidKinds := [.data, .data, .data, .sentinel, .sentinel], laidTests := true, laidLooks := .later }
def RatioNextCardSaid : Prop := Claim7.holds Tryd.pinned (.plain (OpenSpec.ofChange ratioNextSpec)) ratioNextCard

/-- THE SECOND FORM's CARD OF 'quadriviumlaw04.RatioRounds'. -/
def ratioRoundsUptoCard : Claim7 := { stood := { row := ratioRoundsUptoRow, standIns := [], harness := (true, "fe652cbb4de69f45a931bd86bc66aeb111ed610a91918a8a39af2e5c60cc1a86"), looks := true }, kinds := [], alts := [], laidByText := true, laidKinds := [.data, .data, .data, .sentinel, .sentinel], laidTests := true, laidLooks := .later }
def RatioRoundsUptoCardSaid : Prop := Claim7.holds Tryd.pinned (.plain (OpenSpec.upto ratioRoundsSpec)) ratioRoundsUptoCard

/-- THE SECOND FORM's CARD OF 'quadriviumlaw04.RatioTexts'. -/
def ratioTextsUptoCard : Claim7 := { stood := { row := ratioTextsUptoRow, standIns := [], harness := (true, "fe652cbb4de69f45a931bd86bc66aeb111ed610a91918a8a39af2e5c60cc1a86"), looks := true }, kinds := [], alts := [], laidByText := true, laidKinds := [.data, .data, .data, .sentinel, .sentinel], laidTests := true, laidLooks := .later }
def RatioTextsUptoCardSaid : Prop := Claim7.holds Tryd.pinned (.plain (OpenSpec.upto ratioTextsSpec)) ratioTextsUptoCard

/-- THE SECOND FORM's CARD OF 'quadriviumlaw04.RatioLowest'. -/
def ratioLowestUptoCard : Claim7 := { stood := { row := ratioLowestUptoRow, standIns := [], harness := (true, "fe652cbb4de69f45a931bd86bc66aeb111ed610a91918a8a39af2e5c60cc1a86"), looks := true }, kinds := [], alts := [], laidByText := true, laidKinds := [.data, .data, .data, .sentinel, .sentinel], laidTests := true, laidLooks := .later }
def RatioLowestUptoCardSaid : Prop := Claim7.holds Tryd.pinned (.plain (OpenSpec.upto ratioLowestSpec)) ratioLowestUptoCard

/-- THE SECOND FORM's CARD OF 'quadriviumlaw04.RatioSums'. -/
def ratioSumsUptoCard : Claim7 := { stood := { row := ratioSumsUptoRow, standIns := [], harness := (true, "fe652cbb4de69f45a931bd86bc66aeb111ed610a91918a8a39af2e5c60cc1a86"), looks := true }, kinds := [], alts := [], laidByText := true, laidKinds := [.data, .data, .data, .sentinel, .sentinel], laidTests := true, laidLooks := .later }
def RatioSumsUptoCardSaid : Prop := Claim7.holds Tryd.pinned (.plain (OpenSpec.upto ratioSumsSpec)) ratioSumsUptoCard

/-- THE SECOND FORM's CARD OF 'quadriviumlaw04.RatioOrder'. -/
def ratioOrderUptoCard : Claim7 := { stood := { row := ratioOrderUptoRow, standIns := [], harness := (true, "fe652cbb4de69f45a931bd86bc66aeb111ed610a91918a8a39af2e5c60cc1a86"), looks := true }, kinds := [], alts := [], laidByText := true, laidKinds := [.data, .data, .data, .sentinel, .sentinel], laidTests := true, laidLooks := .later }
def RatioOrderUptoCardSaid : Prop := Claim7.holds Tryd.pinned (.plain (OpenSpec.upto ratioOrderSpec)) ratioOrderUptoCard

/-- THE SECOND FORM's CARD OF 'quadriviumlaw04.RatioNext'. -/
def ratioNextUptoCard : Claim7 := { stood := { row := ratioNextUptoRow, standIns := [], harness := (true, "fe652cbb4de69f45a931bd86bc66aeb111ed610a91918a8a39af2e5c60cc1a86"), looks := true }, kinds := [], alts := [], laidByText := true, laidKinds := [.data, .data, .data, .sentinel, .sentinel], laidTests := true, laidLooks := .later }
def RatioNextUptoCardSaid : Prop := Claim7.holds Tryd.pinned (.plain (OpenSpec.upto ratioNextSpec)) ratioNextUptoCard
end Rows
end Go.Proofs.YtmbjoenegcnoiaaDoor
