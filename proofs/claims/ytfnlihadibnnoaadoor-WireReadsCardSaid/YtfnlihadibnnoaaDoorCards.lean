/-
  DERIVED. GIVEN WITH THE SEED: THE CARDS: each row of YtfnlihadibnnoaaDoorRows.lean that lists a variable, with what it lists TIED to the program's text (the seventh form; the later family's looks); each row that meets fmt, with fmt's text TOLD by the authors' own Lean function (tested against real Go, not proved from fmt's source: count such statements apart). THE CARD IS WHAT COUNTS. Prove the row's statement (the work); the ties are given (YtfnlihadibnnoaaDoorTie.lean); close each card by the builder's one call (the guide's Derived/Test/ToyasCard.lean, 'card_holds'). Laid BY PROGRAM, IN A SANDBOX (cutbox-door.mjs). By AI agents, Wed Nov 11 2026. No macro, syntax, notation, axiom, sorry.
-/
import Derived.Test.YtfnlihadibnnoaaDoorRows
import GoSem.ClaimSeven
namespace Go.Proofs.YtfnlihadibnnoaaDoor
namespace Rows

/-- THE TIED CARD OF 'quadriviumlaw01.WireWrites'. -/
def wireWritesCard : Claim7 := { stood := { row := wireWritesRow, standIns := [], harness := (true, "64677ef2af09187c9a6bcc7056196f7e42b47f29934ae25473bdbf837feaae69"), looks := true }, kinds := [], alts := [], laidByText := true, laidKinds := [.data, .data, .data, .sentinel, .sentinel], laidTests := true, laidLooks := .later }
def WireWritesCardSaid : Prop := Claim7.holds Tryd.pinned (.plain (OpenSpec.ofChange wireWritesSpec)) wireWritesCard

/-- THE TIED CARD OF 'quadriviumlaw01.WireReads'. -/
def wireReadsCard : Claim7 := { stood := { row := wireReadsRow, standIns := [], harness := (true, "64677ef2af09187c9a6bcc7056196f7e42b47f29934ae25473bdbf837feaae69"), looks := true }, kinds := [], alts := [], laidByText := true, laidKinds := [.data, .data, .data, .sentinel, .sentinel], laidTests := true, laidLooks := .later }
def WireReadsCardSaid : Prop := Claim7.holds Tryd.pinned (.plain (OpenSpec.ofChange wireReadsSpec)) wireReadsCard

/-- THE TIED CARD OF 'quadriviumlaw01.WireInverse'. -/
def wireInverseCard : Claim7 := { stood := { row := wireInverseRow, standIns := [], harness := (true, "64677ef2af09187c9a6bcc7056196f7e42b47f29934ae25473bdbf837feaae69"), looks := true }, kinds := [], alts := [], laidByText := true, laidKinds := [.data, .data, .data, .sentinel, .sentinel], laidTests := true, laidLooks := .later }
def WireInverseCardSaid : Prop := Claim7.holds Tryd.pinned (.plain (OpenSpec.ofChange wireInverseSpec)) wireInverseCard

/-- THE TIED CARD OF 'quadriviumlaw01.WireCanonical'. -/
def wireCanonicalCard : Claim7 := { stood := { row := wireCanonicalRow, standIns := [], harness := (true, "64677ef2af09187c9a6bcc7056196f7e42b47f29934ae25473bdbf837feaae69"), looks := true }, kinds := [], alts := [], laidByText := true, laidKinds := [.data, .data, .data, .sentinel, .sentinel], laidTests := true, laidLooks := .later }
def WireCanonicalCardSaid : Prop := Claim7.holds Tryd.pinned (.plain (OpenSpec.ofChange wireCanonicalSpec)) wireCanonicalCard

/-- THE TIED CARD OF 'quadriviumlaw01.WireTruncated'. -/
def wireTruncatedCard : Claim7 := { stood := { row := wireTruncatedRow, standIns := [], harness := (true, "64677ef2af09187c9a6bcc7056196f7e42b47f29934ae25473bdbf837feaae69"), looks := true }, kinds := [], alts := [], laidByText := true, laidKinds := [.data, .data, .data, .sentinel, .sentinel], laidTests := true, laidLooks := .later }
def WireTruncatedCardSaid : Prop := Claim7.holds Tryd.pinned (.plain (OpenSpec.ofChange wireTruncatedSpec)) wireTruncatedCard

/-- THE TIED CARD OF 'quadriviumlaw01.WirePrefix'. -/
def wirePrefixCard : Claim7 := { stood := { row := wirePrefixRow, standIns := [], harness := (true, "64677ef2af09187c9a6bcc7056196f7e42b47f29934ae25473bdbf837feaae69"), looks := true }, kinds := [], alts := [], laidByText := true, laidKinds := [.data, .data, .data, .sentinel, .sentinel], laidTests := true, laidLooks := .later }
def WirePrefixCardSaid : Prop := Claim7.holds Tryd.pinned (.plain (OpenSpec.ofChange wirePrefixSpec)) wirePrefixCard

/-- THE TIED CARD OF 'quadriviumlaw01.WireNothing'. -/
def wireNothingCard : Claim7 := { stood := { row := wireNothingRow, standIns := [], harness := (true, "64677ef2af09187c9a6bcc7056196f7e42b47f29934ae25473bdbf837feaae69"), looks := true }, kinds := [], alts := [], laidByText := true, laidKinds := [.data, .data, .data, .sentinel, .sentinel], laidTests := true, laidLooks := .later }
def WireNothingCardSaid : Prop := Claim7.holds Tryd.pinned (.plain (OpenSpec.ofChange wireNothingSpec)) wireNothingCard

/-- THE SECOND FORM's CARD OF 'quadriviumlaw01.WireWrites'. -/
def wireWritesUptoCard : Claim7 := { stood := { row := wireWritesUptoRow, standIns := [], harness := (true, "64677ef2af09187c9a6bcc7056196f7e42b47f29934ae25473bdbf837feaae69"), looks := true }, kinds := [], alts := [], laidByText := true, laidKinds := [.data, .data, .data, .sentinel, .sentinel], laidTests := true, laidLooks := .later }
def WireWritesUptoCardSaid : Prop := Claim7.holds Tryd.pinned (.plain (OpenSpec.upto wireWritesSpec)) wireWritesUptoCard

/-- THE SECOND FORM's CARD OF 'quadriviumlaw01.WireReads'. -/
def wireReadsUptoCard : Claim7 := { stood := { row := wireReadsUptoRow, standIns := [], harness := (true, "64677ef2af09187c9a6bcc7056196f7e42b47f29934ae25473bdbf837feaae69"), looks := true }, kinds := [], alts := [], laidByText := true, laidKinds := [.data, .data, .data, .sentinel, .sentinel], laidTests := true, laidLooks := .later }
def WireReadsUptoCardSaid : Prop := Claim7.holds Tryd.pinned (.plain (OpenSpec.upto wireReadsSpec)) wireReadsUptoCard

/-- THE SECOND FORM's CARD OF 'quadriviumlaw01.WireInverse'. -/
def wireInverseUptoCard : Claim7 := { stood := { row := wireInverseUptoRow, standIns := [], harness := (true, "64677ef2af09187c9a6bcc7056196f7e42b47f29934ae25473bdbf837feaae69"), looks := true }, kinds := [], alts := [], laidByText := true, laidKinds := [.data, .data, .data, .sentinel, .sentinel], laidTests := true, laidLooks := .later }
def WireInverseUptoCardSaid : Prop := Claim7.holds Tryd.pinned (.plain (OpenSpec.upto wireInverseSpec)) wireInverseUptoCard

/-- THE SECOND FORM's CARD OF 'quadriviumlaw01.WireCanonical'. -/
def wireCanonicalUptoCard : Claim7 := { stood := { row := wireCanonicalUptoRow, standIns := [], harness := (true, "64677ef2af09187c9a6bcc7056196f7e42b47f29934ae25473bdbf837feaae69"), looks := true }, kinds := [], alts := [], laidByText := true, laidKinds := [.data, .data, .data, .sentinel, .sentinel], laidTests := true, laidLooks := .later }
def WireCanonicalUptoCardSaid : Prop := Claim7.holds Tryd.pinned (.plain (OpenSpec.upto wireCanonicalSpec)) wireCanonicalUptoCard

/-- THE SECOND FORM's CARD OF 'quadriviumlaw01.WireTruncated'. -/
def wireTruncatedUptoCard : Claim7 := { stood := { row := wireTruncatedUptoRow, standIns := [], harness := (true, "64677ef2af09187c9a6bcc7056196f7e42b47f29934ae25473bdbf837feaae69"), looks := true }, kinds := [], alts := [], laidByText := true, laidKinds := [.data, .data, .data, .sentinel, .sentinel], laidTests := true, laidLooks := .later }
def WireTruncatedUptoCardSaid : Prop := Claim7.holds Tryd.pinned (.plain (OpenSpec.upto wireTruncatedSpec)) wireTruncatedUptoCard

/-- THE SECOND FORM's CARD OF 'quadriviumlaw01.WirePrefix'. -/
def wirePrefixUptoCard : Claim7 := { stood := { row := wirePrefixUptoRow, standIns := [], harness := (true, "64677ef2af09187c9a6bcc7056196f7e42b47f29934ae25473bdbf837feaae69"), looks := true }, kinds := [], alts := [], laidByText := true, laidKinds := [.data, .data, .data, .sentinel, .sentinel], laidTests := true, laidLooks := .later }
def WirePrefixUptoCardSaid : Prop := Claim7.holds Tryd.pinned (.plain (OpenSpec.upto wirePrefixSpec)) wirePrefixUptoCard

/-- THE SECOND FORM's CARD OF 'quadriviumlaw01.WireNothing'. -/
def wireNothingUptoCard : Claim7 := { stood := { row := wireNothingUptoRow, standIns := [], harness := (true, "64677ef2af09187c9a6bcc7056196f7e42b47f29934ae25473bdbf837feaae69"), looks := true }, kinds := [], alts := [], laidByText := true, laidKinds := [.data, .data, .data, .sentinel, .sentinel], laidTests := true, laidLooks := .later }
def WireNothingUptoCardSaid : Prop := Claim7.holds Tryd.pinned (.plain (OpenSpec.upto wireNothingSpec)) wireNothingUptoCard
end Rows
end Go.Proofs.YtfnlihadibnnoaaDoor
