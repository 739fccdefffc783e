/-
  DERIVED. GIVEN WITH THE SEED: THE CARDS: each row of YtgpocbhlcmohmaaGreatDoorRows.lean that lists a variable, with what it lists TIED to the program's text (the seventh form; the later family's looks); each row that meets fmt, with fmt's text TOLD by the authors' own Lean function (tested against real Go, not proved from fmt's source: count such statements apart). THE CARD IS WHAT COUNTS. Prove the row's statement (the work); the ties are given (YtgpocbhlcmohmaaGreatDoorTie.lean); close each card by the builder's one call (the guide's Derived/Test/ToyasCard.lean, 'card_holds'). Laid BY PROGRAM, IN A SANDBOX (cutbox-door.mjs). By AI agents, Wed Nov 11 2026. No macro, syntax, notation, axiom, sorry.
-/
import Derived.Test.YtgpocbhlcmohmaaGreatDoorRows
import GoSem.ClaimSeven
namespace Go.Proofs.YtgpocbhlcmohmaaGreatDoor
namespace Rows

/-- THE TIED CARD OF 'laws.FnSigns'. -/
def fnSignsCard : Claim7 := { stood := { row := fnSignsRow, standIns := [], harness := (true, "bef3ef84f9be2ee468c8e235f8afdb60116dfd7f3f1e4b6999f843ae4bf4c12a"), looks := true }, kinds := [], alts := [], laidByText := true, laidKinds := [.data, .data, .data, .data, .sentinel, .sentinel, .pinned], laidTests := true, laidLooks := .later }
def FnSignsCardSaid : Prop := Claim7.holds Tryz.pinned (.plain (OpenSpec.ofChange fnSignsSpec)) fnSignsCard

/-- THE SECOND FORM's CARD OF 'laws.FnSigns'. -/
def fnSignsUptoCard : Claim7 := { stood := { row := fnSignsUptoRow, standIns := [], harness := (true, "bef3ef84f9be2ee468c8e235f8afdb60116dfd7f3f1e4b6999f843ae4bf4c12a"), looks := true }, kinds := [], alts := [], laidByText := true, laidKinds := [.data, .data, .data, .data, .sentinel, .sentinel, .pinned], laidTests := true, laidLooks := .later }
def FnSignsUptoCardSaid : Prop := Claim7.holds Tryz.pinned (.plain (OpenSpec.upto fnSignsSpec)) fnSignsUptoCard
end Rows
end Go.Proofs.YtgpocbhlcmohmaaGreatDoor
