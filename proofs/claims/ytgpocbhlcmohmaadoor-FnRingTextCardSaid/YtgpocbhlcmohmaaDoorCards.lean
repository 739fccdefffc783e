/-
  DERIVED. GIVEN WITH THE SEED: THE CARDS: each row of YtgpocbhlcmohmaaDoorRows.lean that lists a variable, with what it lists TIED to the program's text (the seventh form; the later family's looks); each row that meets fmt, with fmt's text TOLD by the authors' own Lean function (tested against real Go, not proved from fmt's source: count such statements apart). THE CARD IS WHAT COUNTS. Prove the row's statement (the work); the ties are given (YtgpocbhlcmohmaaDoorTie.lean); close each card by the builder's one call (the guide's Derived/Test/ToyasCard.lean, 'card_holds'). Laid BY PROGRAM, IN A SANDBOX (cutbox-door.mjs). By AI agents, Wed Nov 11 2026. No macro, syntax, notation, axiom, sorry.
-/
import Derived.Test.YtgpocbhlcmohmaaDoorRows
import GoSem.ClaimSeven
namespace Go.Proofs.YtgpocbhlcmohmaaDoor
namespace Rows

/-- THE TIED CARD OF 'laws.FnExactParseDyadic'. -/
def fnExactParseDyadicCard : Claim7 := { stood := { row := fnExactParseDyadicRow, standIns := [], harness := (true, "a52f83a07b541f43761f5fc23e19a3438256352f311a2f5580e6a36e6da3b19a"), looks := true }, kinds := [], alts := [], laidByText := true, laidKinds := [.data, .data, .data, .data, .sentinel, .sentinel, .pinned], laidTests := true, laidLooks := .later }
def FnExactParseDyadicCardSaid : Prop := Claim7.holds Tryd.pinned (.plain (OpenSpec.ofChange fnExactParseDyadicSpec)) fnExactParseDyadicCard

/-- THE TIED CARD OF 'laws.FnRingText'. -/
def fnRingTextCard : Claim7 := { stood := { row := fnRingTextRow, standIns := [], harness := (true, "a52f83a07b541f43761f5fc23e19a3438256352f311a2f5580e6a36e6da3b19a"), looks := true }, kinds := [], alts := [], laidByText := true, laidKinds := [.data, .data, .data, .data, .sentinel, .sentinel, .pinned], laidTests := true, laidLooks := .later }
def FnRingTextCardSaid : Prop := Claim7.holds Tryd.pinned (.plain (OpenSpec.ofChange fnRingTextSpec)) fnRingTextCard

/-- THE TIED CARD OF 'laws.FnExactFormatGate'. -/
def fnExactFormatGateCard : Claim7 := { stood := { row := fnExactFormatGateRow, standIns := [], harness := (true, "a52f83a07b541f43761f5fc23e19a3438256352f311a2f5580e6a36e6da3b19a"), looks := true }, kinds := [], alts := [], laidByText := true, laidKinds := [.data, .data, .data, .widerDeep], laidTests := true, laidLooks := .later }
def FnExactFormatGateCardSaid : Prop := Claim7.holds Tryd.pinned (.plain (OpenSpec.ofChange fnExactFormatGateSpec)) fnExactFormatGateCard

/-- THE TIED CARD OF 'laws.FnExactFormatRing'. -/
def fnExactFormatRingCard : Claim7 := { stood := { row := fnExactFormatRingRow, standIns := [], harness := (true, "a52f83a07b541f43761f5fc23e19a3438256352f311a2f5580e6a36e6da3b19a"), looks := true }, kinds := [], alts := [], laidByText := true, laidKinds := [.data, .data, .data], laidTests := true, laidLooks := .later }
def FnExactFormatRingCardSaid : Prop := Claim7.holds Tryd.pinned (.plain (OpenSpec.ofChange fnExactFormatRingSpec)) fnExactFormatRingCard

/-- THE TIED CARD OF 'laws.FnExactFormatDyadic'. -/
def fnExactFormatDyadicCard : Claim7 := { stood := { row := fnExactFormatDyadicRow, standIns := [], harness := (true, "a52f83a07b541f43761f5fc23e19a3438256352f311a2f5580e6a36e6da3b19a"), looks := true }, kinds := [], alts := [], laidByText := true, laidKinds := [.data, .data, .data], laidTests := true, laidLooks := .later }
def FnExactFormatDyadicCardSaid : Prop := Claim7.holds Tryd.pinned (.plain (OpenSpec.ofChange fnExactFormatDyadicSpec)) fnExactFormatDyadicCard

/-- THE TIED CARD OF 'laws.FnExactFormatCircuit'. -/
def fnExactFormatCircuitCard : Claim7 := { stood := { row := fnExactFormatCircuitRow, standIns := [], harness := (true, "a52f83a07b541f43761f5fc23e19a3438256352f311a2f5580e6a36e6da3b19a"), looks := true }, kinds := [], alts := [], laidByText := true, laidKinds := [.data, .data, .data, .widerDeep], laidTests := true, laidLooks := .later }
def FnExactFormatCircuitCardSaid : Prop := Claim7.holds Tryd.pinned (.plain (OpenSpec.ofChange fnExactFormatCircuitSpec)) fnExactFormatCircuitCard

/-- THE TIED CARD OF 'laws.FnExactFoldCircuit'. -/
def fnExactFoldCircuitCard : Claim7 := { stood := { row := fnExactFoldCircuitRow, standIns := [], harness := (true, "a52f83a07b541f43761f5fc23e19a3438256352f311a2f5580e6a36e6da3b19a"), looks := true }, kinds := [], alts := [], laidByText := true, laidKinds := [.data, .data, .data, .widerDeep], laidTests := true, laidLooks := .later }
def FnExactFoldCircuitCardSaid : Prop := Claim7.holds Tryd.pinned (.plain (OpenSpec.ofChange fnExactFoldCircuitSpec)) fnExactFoldCircuitCard

/-- THE TIED CARD OF 'laws.FnExactParseRing'. -/
def fnExactParseRingCard : Claim7 := { stood := { row := fnExactParseRingRow, standIns := [], harness := (true, "a52f83a07b541f43761f5fc23e19a3438256352f311a2f5580e6a36e6da3b19a"), looks := true }, kinds := [], alts := [], laidByText := true, laidKinds := [.data, .data, .data, .data, .sentinel, .sentinel, .pinned], laidTests := true, laidLooks := .later }
def FnExactParseRingCardSaid : Prop := Claim7.holds Tryd.pinned (.plain (OpenSpec.ofChange fnExactParseRingSpec)) fnExactParseRingCard

/-- THE SECOND FORM's CARD OF 'laws.FnExactParseDyadic'. -/
def fnExactParseDyadicUptoCard : Claim7 := { stood := { row := fnExactParseDyadicUptoRow, standIns := [], harness := (true, "a52f83a07b541f43761f5fc23e19a3438256352f311a2f5580e6a36e6da3b19a"), looks := true }, kinds := [], alts := [], laidByText := true, laidKinds := [.data, .data, .data, .data, .sentinel, .sentinel, .pinned], laidTests := true, laidLooks := .later }
def FnExactParseDyadicUptoCardSaid : Prop := Claim7.holds Tryd.pinned (.plain (OpenSpec.upto fnExactParseDyadicSpec)) fnExactParseDyadicUptoCard

/-- THE SECOND FORM's CARD OF 'laws.FnRingText'. -/
def fnRingTextUptoCard : Claim7 := { stood := { row := fnRingTextUptoRow, standIns := [], harness := (true, "a52f83a07b541f43761f5fc23e19a3438256352f311a2f5580e6a36e6da3b19a"), looks := true }, kinds := [], alts := [], laidByText := true, laidKinds := [.data, .data, .data, .data, .sentinel, .sentinel, .pinned], laidTests := true, laidLooks := .later }
def FnRingTextUptoCardSaid : Prop := Claim7.holds Tryd.pinned (.plain (OpenSpec.upto fnRingTextSpec)) fnRingTextUptoCard

/-- THE SECOND FORM's CARD OF 'laws.FnExactFormatGate'. -/
def fnExactFormatGateUptoCard : Claim7 := { stood := { row := fnExactFormatGateUptoRow, standIns := [], harness := (true, "a52f83a07b541f43761f5fc23e19a3438256352f311a2f5580e6a36e6da3b19a"), looks := true }, kinds := [], alts := [], laidByText := true, laidKinds := [.data, .data, .data, .widerDeep], laidTests := true, laidLooks := .later }
def FnExactFormatGateUptoCardSaid : Prop := Claim7.holds Tryd.pinned (.plain (OpenSpec.upto fnExactFormatGateSpec)) fnExactFormatGateUptoCard

/-- THE SECOND FORM's CARD OF 'laws.FnExactFormatRing'. -/
def fnExactFormatRingUptoCard : Claim7 := { stood := { row := fnExactFormatRingUptoRow, standIns := [], harness := (true, "a52f83a07b541f43761f5fc23e19a3438256352f311a2f5580e6a36e6da3b19a"), looks := true }, kinds := [], alts := [], laidByText := true, laidKinds := [.data, .data, .data], laidTests := true, laidLooks := .later }
def FnExactFormatRingUptoCardSaid : Prop := Claim7.holds Tryd.pinned (.plain (OpenSpec.upto fnExactFormatRingSpec)) fnExactFormatRingUptoCard

/-- THE SECOND FORM's CARD OF 'laws.FnExactFormatDyadic'. -/
def fnExactFormatDyadicUptoCard : Claim7 := { stood := { row := fnExactFormatDyadicUptoRow, standIns := [], harness := (true, "a52f83a07b541f43761f5fc23e19a3438256352f311a2f5580e6a36e6da3b19a"), looks := true }, kinds := [], alts := [], laidByText := true, laidKinds := [.data, .data, .data], laidTests := true, laidLooks := .later }
def FnExactFormatDyadicUptoCardSaid : Prop := Claim7.holds Tryd.pinned (.plain (OpenSpec.upto fnExactFormatDyadicSpec)) fnExactFormatDyadicUptoCard

/-- THE SECOND FORM's CARD OF 'laws.FnExactFormatCircuit'. -/
def fnExactFormatCircuitUptoCard : Claim7 := { stood := { row := fnExactFormatCircuitUptoRow, standIns := [], harness := (true, "a52f83a07b541f43761f5fc23e19a3438256352f311a2f5580e6a36e6da3b19a"), looks := true }, kinds := [], alts := [], laidByText := true, laidKinds := [.data, .data, .data, .widerDeep], laidTests := true, laidLooks := .later }
def FnExactFormatCircuitUptoCardSaid : Prop := Claim7.holds Tryd.pinned (.plain (OpenSpec.upto fnExactFormatCircuitSpec)) fnExactFormatCircuitUptoCard

/-- THE SECOND FORM's CARD OF 'laws.FnExactFoldCircuit'. -/
def fnExactFoldCircuitUptoCard : Claim7 := { stood := { row := fnExactFoldCircuitUptoRow, standIns := [], harness := (true, "a52f83a07b541f43761f5fc23e19a3438256352f311a2f5580e6a36e6da3b19a"), looks := true }, kinds := [], alts := [], laidByText := true, laidKinds := [.data, .data, .data, .widerDeep], laidTests := true, laidLooks := .later }
def FnExactFoldCircuitUptoCardSaid : Prop := Claim7.holds Tryd.pinned (.plain (OpenSpec.upto fnExactFoldCircuitSpec)) fnExactFoldCircuitUptoCard

/-- THE SECOND FORM's CARD OF 'laws.FnExactParseRing'. -/
def fnExactParseRingUptoCard : Claim7 := { stood := { row := fnExactParseRingUptoRow, standIns := [], harness := (true, "a52f83a07b541f43761f5fc23e19a3438256352f311a2f5580e6a36e6da3b19a"), looks := true }, kinds := [], alts := [], laidByText := true, laidKinds := [.data, .data, .data, .data, .sentinel, .sentinel, .pinned], laidTests := true, laidLooks := .later }
def FnExactParseRingUptoCardSaid : Prop := Claim7.holds Tryd.pinned (.plain (OpenSpec.upto fnExactParseRingSpec)) fnExactParseRingUptoCard
end Rows
end Go.Proofs.YtgpocbhlcmohmaaDoor
